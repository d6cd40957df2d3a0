/-
  Layer 30: the contract of span's of. (PRUNE)
-/
import Derived.Test.YtegpjjkbbdfggaaSpanPlain
import Derived.Laws.Tables
import Derived.Deep.WholeRow
namespace Go.Proofs.Ytegpjjkbbdfggaa.sp
set_option linter.unusedVariables false
set_option linter.unusedSimpArgs false
open Go.RowKit bs

theorem inRuns_take (l : List (Int × Int)) (k : Nat) (h : k < l.length) (j : Nat) : inRuns (l.take (k + 1)) j = (inRuns (l.take k) j || (decide (l[k].1 ≤ (j : Int)) && decide ((j : Int) < l[k].2))) := by
  unfold inRuns
  rw [List.take_succ_eq_append_getElem h, List.any_append]
  simp
theorem inRuns_all (l : List (Int × Int)) (k : Nat) (h : l.length ≤ k) : inRuns (l.take k) = inRuns l := by rw [List.take_of_length_le h]

def OfRel (T : TypeId) (W : World) (r p : Nat) (S : Nat → Bool) (wr : World) : Prop :=
  Blk wr r T (rowC fun _ => false) ∧ Blk wr p T (rowC S) ∧ W.heap.size ≤ r ∧ r < p ∧ Below W.heap.size W wr
theorem OfRel.start (T : TypeId) (w : World) : OfRel T w w.heap.size (w.heap.size + 1) (fun _ => false) ((w.alloc (.cells (Array.replicate 64 (.bool false)) T)).alloc (.cells (Array.replicate 64 (.bool false)) T)) := by
  have b0 := Blk.new w T (Array.replicate 64 (.bool false))
  have b1 := Blk.new (w.alloc (.cells (Array.replicate 64 (.bool false)) T)) T (Array.replicate 64 (.bool false))
  have s1 : ∀ (u : World) (o : Obj), (u.alloc o).heap.size = u.heap.size + 1 := fun u o => by simp
  simp only [s1] at b1
  rw [rowC_zero] at b0 b1 ⊢
  exact ⟨b0.alloc _, b1, Nat.le_refl _, by omega, by (repeat' (first | exact Below.refl _ _ | exact Below.refl _ _ | refine balloc ?_ _ | refine Below.drew ?_ | refine below_drewN ?_ _ | refine bset ?_ (by first | omega | (simp <;> omega)) _))⟩
theorem OfRel.ext {T : TypeId} {W wr : World} {r p : Nat} {S S2 : Nat → Bool} (h : OfRel T W r p S wr) (e : ∀ i, i < 64 → S i = S2 i) : OfRel T W r p S2 wr := by
  obtain ⟨h1, h2, h3⟩ := h
  rw [rowC_ext e] at h2
  exact ⟨h1, h2, h3⟩
theorem OfRel.alloc {T : TypeId} {W wr : World} {r p : Nat} {S : Nat → Bool} (h : OfRel T W r p S wr) (o : Obj) : OfRel T W r p S (wr.alloc o) :=
  ⟨h.1.alloc o, h.2.1.alloc o, h.2.2.1, h.2.2.2.1, balloc h.2.2.2.2 o⟩
theorem OfRel.set {T : TypeId} {W wr : World} {r p i : Nat} {S : Nat → Bool} (h : OfRel T W r p S wr) (hi : i < 64) : OfRel T W r p (fun j => if j = i then true else S j) (wr.setCell ⟨p, i, none⟩ (.bool true)) := by
  obtain ⟨h1, h2, h3, h4, h5⟩ := h
  refine ⟨h1.far (by show r ≠ p; omega) _, ?_, h3, h4, bset h5 (by show W.heap.size ≤ p; omega) _⟩
  have := h2.set_ i (.bool true)
  rwa [rowC_set S i hi] at this
theorem OfRel.cell {T : TypeId} {W wr : World} {r p i : Nat} {S : Nat → Bool} (h : OfRel T W r p S wr) (hi : i < 64) : wr.cell? ⟨p, i, none⟩ = some (.bool (S i)) ∧ wr.frozen? ⟨p, i, none⟩ = false :=
  ⟨by rw [h.2.1.cell, rowC_get _ _ hi], h.2.1.frozen i⟩

/-- in the middle of a run: the places from a on, below i, are laid -/
def OfIn (T : TypeId) (W : World) (r p q : Nat) (S : Nat → Bool) (x y hi : Int) (a : Nat) (iv : Value) (wr : World) : Prop :=
  ∃ i : Nat, a ≤ i ∧ ((i : Int) ≤ hi ∨ i = a) ∧ iv = .int .i64 i ∧ OfRel T W r p (fun j => S j || (decide (a ≤ j) && decide (j < i))) wr ∧ Blk wr q 109 #[.int .i64 x, .int .i64 y] ∧ p < q
theorem OfIn.step {T : TypeId} {W wr : World} {r p q a i : Nat} {S : Nat → Bool} {x y hi : Int} (ha : a ≤ i) (hi64 : hi ≤ 64) (hlt : (i : Int) < hi)
    (h : OfRel T W r p (fun j => S j || (decide (a ≤ j) && decide (j < i))) wr) (hq : Blk wr q 109 #[.int .i64 x, .int .i64 y]) (hpq : p < q) :
    OfIn T W r p q S x y hi a (.int .i64 ((i : Int) + 1)) (wr.setCell ⟨p, i, none⟩ (.bool true)) := by
  refine ⟨i + 1, by omega, by omega, by go_num, (h.set (by omega)).ext fun j hj => ?_, hq.far (by show q ≠ p; omega) _, hpq⟩
  by_cases e : j = i
  · subst e; simp [ha]
  · rw [if_neg e]
    congr 2
    by_cases h2 : j < i
    · simp [h2]; omega
    · simp [h2]; omega

set_option maxRecDepth 100000 in
set_option maxHeartbeats 800000 in
theorem of_any (A : Option Addr) (n c : Nat) (l : List (Int × Int)) (w : World) (hr : Runs w A n c l) (hn : n ≤ 9223372036854775807) :
    Calls Try.prog 123 #[.slice A n c] w fun e w' => e = .returned (.agg (rowC (inRuns l))) ∧ Below w.heap.size w w' := by
  go_enter Try.func123, Try.ntmps123
  go_wp2_with fail
  go_loopw [9] (fun kv wr => ∃ k : Nat, k ≤ n ∧ kv = .int .i64 k ∧ OfRel 149 w w.heap.size (w.heap.size + 1) (inRuns (l.take k)) wr) (fun kv _ => n - (intOf kv).toNat)
  case atStart => exact ⟨0, by omega, rfl, OfRel.start _ w⟩
  case round =>
    obtain ⟨k, hk, rfl, hrel⟩ := hrel
    by_cases hlt : k < n
    · have dk : decide ((k : Int) < (n : Int)) = true := by simp; omega
      have hr' := hr.below hrel.2.2.2.2
      obtain ⟨hl, hnc, hcell⟩ := hr'
      obtain ⟨b, o, rfl, hb, hcell⟩ := hcell (by omega)
      have hkl : k < l.length := by omega
      obtain ⟨c1, c2⟩ := hcell k hkl
      have ht := inRuns_take l k hkl
      generalize l[k].1 = x at *
      generalize l[k].2 = y at *
      obtain ⟨hi, hhi, hi1, hi2, hi3⟩ : ∃ hi, (if 64 < y then 64 else y) = hi ∧ hi ≤ 64 ∧ hi ≤ y ∧ (hi = 64 ∨ hi = y) := ⟨_, rfl, by split <;> omega, by split <;> omega, by split <;> omega⟩
      obtain ⟨lo, hlo, lo1, lo2, lo3⟩ : ∃ lo, (if 0 < x then x else 0) = lo ∧ 0 ≤ lo ∧ x ≤ lo ∧ (lo = 0 ∨ lo = x) := ⟨_, rfl, by split <;> omega, by split <;> omega, by split <;> omega⟩
      obtain ⟨a, rfl⟩ := Int.eq_ofNat_of_zero_le lo1
      have HT := Lib.hid ht
      clear ht hcell hl
      go_wp2_with fail
      have hq := Blk.new wr 109 #[.int .i64 x, .int .i64 y]
      have hlt1 : w.heap.size + 1 < wr.heap.size := hrel.2.1.lt
      go_loopw [6] (fun iv wi => OfIn 149 w w.heap.size (w.heap.size + 1) wr.heap.size (inRuns (l.take k)) x y hi a iv wi) (fun iv _ => 64 - (intOf iv).toNat)
      case atStart => exact ⟨a, by omega, .inr rfl, rfl, (hrel.alloc _).ext (fun j _ => by by_cases h : a ≤ j <;> simp [h]; omega), hq, hlt1⟩
      case round =>
        obtain ⟨i, hai, hih, rfl, hof, hbq, hpq⟩ := hrel
        have q1 := hbq.cell 1
        simp only [List.getElem?_toArray, List.getElem?_cons_succ, List.getElem?_cons_zero] at q1
        by_cases hin : (i : Int) < hi
        · have hnext := OfIn.step hai hi1 hin hof hbq hpq
          obtain ⟨f1, f2⟩ := hof.cell (i := i) (by omega)
          go_wp2_with fail
          go_roundw
          case rel => exact hnext
          case measure => simp [intOf]; omega
        · go_wp2_with fail
          go_roundw
          case rel =>
            refine ⟨k + 1, by omega, by go_num, hof.ext fun j hj => ?_⟩
            rw [HT.out]
            congr 1
            by_cases h1 : x ≤ (j : Int)
            · by_cases h2 : (j : Int) < y
              · simp [h1, h2]; omega
              · simp [h1, h2]; omega
            · simp [h1]; omega
          case measure => simp [intOf]; omega
    · obtain rfl : k = n := by omega
      have hin : inRuns (l.take k) = inRuns l := inRuns_all l k (by have := hr.1; omega)
      rw [hin] at hrel
      obtain ⟨h1, h2, h3, h4, h5⟩ := hrel
      go_wp2_with (first
        | (refine wpList_load_row rfl 149 (.tmp 3) rfl _ rfl _ _ _ _ h2 Try.underlying149 rfl (by rw [rowC_size]; kernel_rfl) ?_)
        | (refine wpList_store_row rfl 149 (.tmp 2) (.tmp 26) rfl _ (rowC (inRuns l)) rfl rfl _ _ h1 (by rw [rowC_size]; kernel_rfl) (by rw [rowC_size, rowC_size]) (rowC_one _) ?_))
      exact ret_struct1 rfl rfl (h1.row _) Try.underlying149 rfl (by rw [rowC_size]; kernel_rfl) rfl ⟨rfl, brow h5 h3 _⟩
end Go.Proofs.Ytegpjjkbbdfggaa.sp
