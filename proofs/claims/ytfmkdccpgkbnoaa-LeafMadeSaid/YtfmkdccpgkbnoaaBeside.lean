/-
  Layer 30: the contracts of beside, both, and of Join, Meet, Less, Other, Not. (PRUNE)
-/
import Derived.Test.YtfmkdccpgkbnoaaRuns
import Derived.StillTailTactics
namespace Go.Proofs.Ytfmkdccpgkbnoaa.sp
set_option linter.unusedVariables false
set_option linter.unusedSimpArgs false
open Go.RowKit bs

def BesRel (W : World) (S T : Nat → Bool) (h : Bool → Bool → Bool) (k : Nat) (wr : World) : Prop :=
  Blk wr W.heap.size 78 (rowC S) ∧ Blk wr (W.heap.size + 1) 78 (rowC T) ∧ Blk wr (W.heap.size + 2) 78 (rowC fun _ => false) ∧
    Blk wr (W.heap.size + 3) 78 (rowC fun j => decide (j < k) && h (S j) (T j)) ∧ Below W.heap.size W wr
theorem BesRel.start (w : World) (S T : Nat → Bool) (h : Bool → Bool → Bool) : BesRel w S T h 0
    ((((w.alloc (.cells (rowC S) 78)).alloc (.cells (rowC T) 78)).alloc (.cells (Array.replicate 64 (.bool false)) 78)).alloc (.cells (Array.replicate 64 (.bool false)) 78)) := by
  have b0 := Blk.new w 78 (rowC S)
  have b1 := Blk.new (w.alloc (.cells (rowC S) 78)) 78 (rowC T)
  have b2 := Blk.new ((w.alloc (.cells (rowC S) 78)).alloc (.cells (rowC T) 78)) 78 (Array.replicate 64 (.bool false))
  have b3 := Blk.new (((w.alloc (.cells (rowC S) 78)).alloc (.cells (rowC T) 78)).alloc (.cells (Array.replicate 64 (.bool false)) 78)) 78 (Array.replicate 64 (.bool false))
  have s1 : ∀ (u : World) (o : Obj), (u.alloc o).heap.size = u.heap.size + 1 := fun u o => by simp
  simp only [s1] at b1 b2 b3
  refine ⟨((b0.alloc _).alloc _).alloc _, (b1.alloc _).alloc _, ?_, ?_, by (repeat' (first | exact Below.refl _ _ | exact Below.refl _ _ | refine balloc ?_ _ | refine Below.drew ?_ | refine below_drewN ?_ _ | refine bset ?_ (by first | omega | (simp <;> omega)) _))⟩
  · have := b2.alloc (.cells (Array.replicate 64 (.bool false)) 78)
    rw [rowC_zero] at this ⊢; exact this
  · have e : rowC (fun j => decide (j < 0) && h (S j) (T j)) = rowC fun _ => false := rowC_ext fun i _ => by simp
    rw [e]
    rw [rowC_zero] at b3 ⊢; exact b3
theorem BesRel.step {W wr : World} {S T : Nat → Bool} {h : Bool → Bool → Bool} {k : Nat} (hr : BesRel W S T h k wr) (hk : k < 64) :
    BesRel W S T h (k + 1) (wr.setCell ⟨W.heap.size + 3, k, none⟩ (.bool (h (S k) (T k)))) := by
  obtain ⟨h0, h1, h2, h3, hb⟩ := hr
  refine ⟨h0.far (by simp) _, h1.far (by simp) _, h2.far (by simp) _, ?_, bset hb (by simp) _⟩
  have := h3.set_ k (.bool (h (S k) (T k)))
  rw [rowC_set _ k hk] at this
  have e : rowC (fun j => if j = k then h (S k) (T k) else decide (j < k) && h (S j) (T j)) = rowC (fun j => decide (j < k + 1) && h (S j) (T j)) := rowC_ext fun i _ => by
    by_cases e : i = k
    · subst e; simp
    · rw [if_neg e]
      congr 1
      simp; omega
  rw [e] at this
  exact this
theorem BesRel.drew {W wr : World} {S T : Nat → Bool} {h : Bool → Bool → Bool} {k : Nat} (hr : BesRel W S T h k wr) : BesRel W S T h k wr.drew :=
  ⟨hr.1.drew, hr.2.1.drew, hr.2.2.1.drew, hr.2.2.2.1.drew, hr.2.2.2.2.drew⟩

/-- what is made of two lists of runs, place by place -/
def two (h : Bool → Bool → Bool) (l m : List (Int × Int)) : List (Int × Int) := rl (fun i => h (inRuns l i) (inRuns m i)) 64

end Go.Proofs.Ytfmkdccpgkbnoaa.sp
