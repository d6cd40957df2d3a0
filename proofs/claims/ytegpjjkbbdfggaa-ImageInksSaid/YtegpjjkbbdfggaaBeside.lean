/-
  Layer 30: the contracts of beside, both, and of Join, Meet, Less, Other, Not. (PRUNE)
-/
import Derived.Test.YtegpjjkbbdfggaaRuns
import Derived.StillTailTactics
namespace Go.Proofs.Ytegpjjkbbdfggaa.sp
set_option linter.unusedVariables false
set_option linter.unusedSimpArgs false
open Go.RowKit bs

def BesRel (W : World) (S T : Nat → Bool) (h : Bool → Bool → Bool) (k : Nat) (wr : World) : Prop :=
  Blk wr W.heap.size 113 (rowC S) ∧ Blk wr (W.heap.size + 1) 113 (rowC T) ∧ Blk wr (W.heap.size + 2) 113 (rowC fun _ => false) ∧
    Blk wr (W.heap.size + 3) 113 (rowC fun j => decide (j < k) && h (S j) (T j)) ∧ Below W.heap.size W wr
theorem BesRel.start (w : World) (S T : Nat → Bool) (h : Bool → Bool → Bool) : BesRel w S T h 0
    ((((w.alloc (.cells (rowC S) 113)).alloc (.cells (rowC T) 113)).alloc (.cells (Array.replicate 64 (.bool false)) 113)).alloc (.cells (Array.replicate 64 (.bool false)) 113)) := by
  have b0 := Blk.new w 113 (rowC S)
  have b1 := Blk.new (w.alloc (.cells (rowC S) 113)) 113 (rowC T)
  have b2 := Blk.new ((w.alloc (.cells (rowC S) 113)).alloc (.cells (rowC T) 113)) 113 (Array.replicate 64 (.bool false))
  have b3 := Blk.new (((w.alloc (.cells (rowC S) 113)).alloc (.cells (rowC T) 113)).alloc (.cells (Array.replicate 64 (.bool false)) 113)) 113 (Array.replicate 64 (.bool false))
  have s1 : ∀ (u : World) (o : Obj), (u.alloc o).heap.size = u.heap.size + 1 := fun u o => by simp
  simp only [s1] at b1 b2 b3
  refine ⟨((b0.alloc _).alloc _).alloc _, (b1.alloc _).alloc _, ?_, ?_, by (repeat' (first | exact Below.refl _ _ | exact Below.refl _ _ | refine balloc ?_ _ | refine Below.drew ?_ | refine below_drewN ?_ _ | refine bset ?_ (by first | omega | (simp <;> omega)) _))⟩
  · have := b2.alloc (.cells (Array.replicate 64 (.bool false)) 113)
    rw [rowC_zero] at this ⊢; exact this
  · have e : rowC (fun j => decide (j < 0) && h (S j) (T j)) = rowC fun _ => false := rowC_ext fun i _ => by simp
    rw [e]
    rw [rowC_zero] at b3 ⊢; exact b3
theorem BesRel.step {W wr : World} {S T : Nat → Bool} {h : Bool → Bool → Bool} {k : Nat} (hr : BesRel W S T h k wr) (hk : k < 64) :
    BesRel W S T h (k + 1) (wr.setCell ⟨W.heap.size + 3, k, none⟩ (.bool (h (S k) (T k)))) := by
  obtain ⟨h0, h1, h2, h3, hb⟩ := hr
  refine ⟨h0.far (by simp) _, h1.far (by simp) _, h2.far (by simp) _, ?_, bset hb (by simp) _⟩
  have := h3.set_ k (.bool (h (S k) (T k)))
  rw [rowC_set _ k hk] at this
  have e : rowC (fun j => if j = k then h (S k) (T k) else decide (j < k) && h (S j) (T j)) = rowC (fun j => decide (j < k + 1) && h (S j) (T j)) := rowC_ext fun i _ => by
    by_cases e : i = k
    · subst e; simp
    · rw [if_neg e]
      congr 1
      simp; omega
  rw [e] at this
  exact this
theorem BesRel.drew {W wr : World} {S T : Nat → Bool} {h : Bool → Bool → Bool} {k : Nat} (hr : BesRel W S T h k wr) : BesRel W S T h k wr.drew :=
  ⟨hr.1.drew, hr.2.1.drew, hr.2.2.1.drew, hr.2.2.2.1.drew, hr.2.2.2.2.drew⟩

set_option maxRecDepth 100000 in
set_option maxHeartbeats 800000 in
theorem beside_any (S T : Nat → Bool) (f : FuncId) (h : Bool → Bool → Bool) (hcf : ∀ (args : Array Value) (W : World), (callFunc f args).run Try.prog W = .ok (.enter f args) W) (hf : ∀ (x y : Bool) (W : World), Calls Try.prog f #[.bool x, .bool y] W fun e w' => e = .returned (.bool (h x y)) ∧ w' = W) (w : World) :
    Calls Try.prog 129 #[.agg (rowC S), .agg (rowC T), .func (.func f) #[] #[]] w fun e w' => e = .returned (.agg (rowC fun i => h (S i) (T i))) ∧ Below w.heap.size w w' := by
  have HF := Lib.hid hf
  clear hf
  go_enter Try.func129, Try.ntmps129
  go_wp2_with fail
  go_loopw [9] (fun kv wr => ∃ k : Nat, k ≤ 64 ∧ kv = .int .i64 k ∧ BesRel w S T h k wr) (fun kv _ => 64 - (intOf kv).toNat)
  case atStart => exact ⟨0, by omega, rfl, BesRel.start w S T h⟩
  case round =>
    obtain ⟨k, hk, rfl, hR⟩ := hrel
    by_cases hlt : k < 64
    · have c0 : wr.cell? ⟨w.heap.size, k, none⟩ = some (.bool (S k)) := by rw [hR.1.cell, rowC_get S k hlt]
      have c1 : wr.cell? ⟨w.heap.size + 1, k, none⟩ = some (.bool (T k)) := by rw [hR.2.1.cell, rowC_get T k hlt]
      have c2 : ∃ v, wr.cell? ⟨w.heap.size + 3, k, none⟩ = some v := ⟨_, by rw [hR.2.2.2.1.cell, rowC_get _ k hlt]⟩
      obtain ⟨v, c2⟩ := c2
      have c3 := hR.2.2.2.1.frozen k
      have hnext := hR.drew.step hlt
      go_wp2_with fail
      refine wp_region_still_tail 10 (by kernel_rfl) (by kernel_rfl) ?_
      simp only [List.take_succ_cons, List.take_zero, List.drop_succ_cons, List.drop_zero]
      repeat still_step
      still_call (HF.out _ _ _)
      repeat still_step
      refine wpStill_nil ?_
      change wpList _ _ _ _ _ wr.drew
      go_wp2_with fail
      go_roundw
      case rel => exact ⟨k + 1, by omega, by go_num, hnext⟩
      case measure => simp [intOf]; omega
    · obtain rfl : k = 64 := by omega
      obtain ⟨h0, h1, h2, h3, hb⟩ := hR
      have e : rowC (fun j => decide (j < 64) && h (S j) (T j)) = rowC fun i => h (S i) (T i) := rowC_ext fun i hi => by simp [hi]
      rw [e] at h3
      go_wp2_with (first
        | (refine wpList_load_row rfl 113 (.tmp 7) rfl _ rfl _ _ _ _ h3 Try.underlying113 rfl (by rw [rowC_size]; kernel_rfl) ?_)
        | (refine wpList_store_row rfl 113 (.tmp 6) (.tmp 23) rfl _ (rowC fun i => h (S i) (T i)) rfl rfl _ _ h2 (by rw [rowC_size]; kernel_rfl) (by rw [rowC_size, rowC_size]) (rowC_one _) ?_))
      exact ret_struct1 rfl rfl (h2.row _) Try.underlying113 rfl (by rw [rowC_size]; kernel_rfl) rfl ⟨rfl, brow hb (by omega) _⟩

theorem less1 (x y : Bool) (W : World) : Calls Try.prog 122 #[.bool x, .bool y] W fun e w' => e = .returned (.bool (x && !y)) ∧ w' = W := by
  cases x <;> cases y <;> (go_enter Try.func122, Try.ntmps122; go_wp2_with fail; go_ret; exact ⟨rfl, rfl⟩)
/-- what is made of two lists of runs, place by place -/
def two (h : Bool → Bool → Bool) (l m : List (Int × Int)) : List (Int × Int) := rl (fun i => h (inRuns l i) (inRuns m i)) 64

theorem both_any (A B : Option Addr) (n c m d : Nat) (l k : List (Int × Int)) (f : FuncId) (h : Bool → Bool → Bool) (hcf : ∀ (args : Array Value) (W : World), (callFunc f args).run Try.prog W = .ok (.enter f args) W) (hf : ∀ (x y : Bool) (W : World), Calls Try.prog f #[.bool x, .bool y] W fun e w' => e = .returned (.bool (h x y)) ∧ w' = W)
    (w : World) (hl : Runs w A n c l) (hk : Runs w B m d k) (hn : n ≤ 9223372036854775807) (hm : m ≤ 9223372036854775807) :
    Calls Try.prog 121 #[.slice A n c, .slice B m d, .func (.func f) #[] #[]] w fun e w' => ∃ A' c', e = .returned (.slice A' (two h l k).length c') ∧ Runs w' A' (two h l k).length c' (two h l k) ∧ Below w.heap.size w w' := by
  have HF := Lib.hid hf
  clear hf
  go_enter Try.func121, Try.ntmps121
  go_wp2_with fail
  refine (of_any A n c l _ hl hn).mono ?_
  rintro e w1 ⟨rfl, hb1⟩
  go_wp2_with fail
  refine (of_any B m d k _ (hk.below hb1) hm).mono ?_
  rintro e w2 ⟨rfl, hb2⟩
  go_wp2_with fail
  refine (beside_any _ _ f h hcf HF.out _).mono ?_
  rintro e w3 ⟨rfl, hb3⟩
  go_wp2_with fail
  refine (runs_any _ _).mono ?_
  rintro e w4 ⟨A', c', rfl, hr, hb4⟩
  go_wp2_with fail
  go_ret
  exact ⟨A', c', rfl, hr, btrans (btrans (btrans hb1 hb2) hb3) hb4⟩

theorem less_any (A B : Option Addr) (n c m d : Nat) (l k : List (Int × Int)) (w : World) (hl : Runs w A n c l) (hk : Runs w B m d k) (hn : n ≤ 9223372036854775807) (hm : m ≤ 9223372036854775807) :
    Calls Try.prog 98 #[.slice A n c, .slice B m d] w fun e w' => ∃ A' c', e = .returned (.slice A' (two (fun x y => x && !y) l k).length c') ∧ Runs w' A' (two (fun x y => x && !y) l k).length c' (two (fun x y => x && !y) l k) ∧ Below w.heap.size w w' := by
  have hcf : ∀ (args : Array Value) (W : World), (callFunc 122 args).run Try.prog W = .ok (.enter 122 args) W := fun args W => by kernel_rfl
  go_enter Try.func98, Try.ntmps98
  go_wp2_with fail
  refine (both_any A B n c m d l k _ (fun x y => x && !y) hcf less1 w hl hk hn hm).mono ?_
  rintro e w1 ⟨A', c', rfl, hr, hb1⟩
  go_wp2_with fail
  go_ret
  exact ⟨A', c', rfl, hr, hb1⟩

end Go.Proofs.Ytegpjjkbbdfggaa.sp
