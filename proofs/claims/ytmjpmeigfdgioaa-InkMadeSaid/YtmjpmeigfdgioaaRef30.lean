/-
  The reference for runs (tympanref30): the contracts of Cut, Places, Of, May. (PRUNE)
-/
import Derived.Test.YtmjpmeigfdgioaaSpan3
namespace Go.Proofs.Ytmjpmeigfdgioaa.sp
set_option linter.unusedVariables false
set_option linter.unusedSimpArgs false
open Go.RowKit bs

set_option maxRecDepth 100000 in
theorem rcut_any (v : Int) (w : World) : Calls Try.prog 50 #[.int .i64 v] w fun e w' => e = .returned (.int .i64 (max 0 (min v 64))) ∧ w = w' := by
  obtain ⟨p, hp, p0⟩ : ∃ p, (if v < 0 then 0 else v) = p ∧ p = max v 0 := ⟨_, rfl, by split <;> omega⟩
  obtain ⟨p', hp', p0'⟩ : ∃ p, (if 0 < v then v else 0) = p ∧ p = max v 0 := ⟨_, rfl, by split <;> omega⟩
  go_enter Try.func50, Try.ntmps50
  go_wp2_with fail
  all_goals go_ret
  all_goals exact ⟨ret_int (by omega), rfl⟩

/-- in the middle of a run: the places from a on, below i, are laid -/
def PlIn (W : World) (r p : Nat) (S : Nat → Bool) (hi : Int) (a : Nat) (iv : Value) (wr : World) : Prop :=
  ∃ i : Nat, a ≤ i ∧ ((i : Int) ≤ hi ∨ i = a) ∧ iv = .int .i64 i ∧ OfRel 64 W r p (fun j => S j || (decide (a ≤ j) && decide (j < i))) wr
theorem PlIn.step {W wr : World} {r p a i : Nat} {S : Nat → Bool} {hi : Int} (ha : a ≤ i) (hi64 : hi ≤ 64) (hlt : (i : Int) < hi)
    (h : OfRel 64 W r p (fun j => S j || (decide (a ≤ j) && decide (j < i))) wr) :
    PlIn W r p S hi a (.int .i64 ((i : Int) + 1)) (wr.setCell ⟨p, i, none⟩ (.bool true)) := by
  refine ⟨i + 1, by omega, by omega, by go_num, (h.set (by omega)).ext fun j hj => ?_⟩
  by_cases e : j = i
  · subst e; simp [ha]
  · rw [if_neg e]
    congr 2
    by_cases h2 : j < i
    · simp [h2]; omega
    · simp [h2]; omega

set_option maxRecDepth 100000 in
set_option maxHeartbeats 1600000 in
theorem places_any (A : Option Addr) (n c : Nat) (l : List (Int × Int)) (w : World) (hr : Runs w A n c l) (hn : n ≤ 9223372036854775807) :
    Calls Try.prog 40 #[.slice A n c] w fun e w' => e = .returned (.agg (rowC (inRuns l))) ∧ Below w.heap.size w w' := by
  go_enter Try.func40, Try.ntmps40
  go_wp2_with fail
  go_loopw [4] (fun kv wr => ∃ k : Nat, k ≤ n ∧ kv = .int .i64 k ∧ OfRel 64 w w.heap.size (w.heap.size + 1) (inRuns (l.take k)) wr) (fun kv _ => n - (intOf kv).toNat)
  case atStart => exact ⟨0, by omega, rfl, OfRel.start _ w⟩
  case round =>
    obtain ⟨k, hk, rfl, hrel⟩ := hrel
    by_cases hlt : k < n
    · have dk : decide (k < n) = true := by simp; omega
      have dk2 : decide ((k : Int) < (n : Int)) = true := by simp; omega
      have hrr := hr
      obtain ⟨hl, hnc, hcell⟩ := hr
      obtain ⟨b, o, rfl, hb, hcell⟩ := hcell (by omega)
      have hkl : k < l.length := by omega
      obtain ⟨c1, c2⟩ := hcell k hkl
      have ht := inRuns_take l k hkl
      generalize l[k].1 = x at *
      generalize l[k].2 = y at *
      have c1' := (hrel.2.2.2.2.cell (p := ⟨b, o + k * 2, none⟩) hb).trans c1
      obtain ⟨hi, hhi, hi1, hi2, hi3⟩ : ∃ hi, max 0 (min y 64) = hi ∧ hi ≤ 64 ∧ (hi ≤ y ∨ hi = 0) ∧ (hi = 64 ∨ hi = y ∨ hi = 0) := ⟨_, rfl, by omega, by omega, by omega⟩
      obtain ⟨lo, hlo, lo1, lo2⟩ : ∃ lo, max 0 (min x 64) = lo ∧ 0 ≤ lo ∧ lo ≤ 64 := ⟨_, rfl, by omega, by omega⟩
      obtain ⟨a, rfl⟩ := Int.eq_ofNat_of_zero_le lo1
      have HT := Lib.hid ht
      clear ht hcell hl hrr
      go_wp2_with (go_at_call 50; refine (rcut_any _ _).mono ?_; rintro e w' ⟨rfl, rfl⟩)
      clear c1'
      go_loopw [5] (fun iv wi => PlIn w w.heap.size (w.heap.size + 1) (inRuns (l.take k)) hi a iv wi) (fun iv _ => 64 - (intOf iv).toNat)
      case atStart => exact ⟨a, by omega, .inr rfl, rfl, hrel.ext (fun j _ => by by_cases h : a ≤ j <;> simp [h]; omega)⟩
      case round =>
        obtain ⟨i, hai, hih, rfl, hof⟩ := hrel
        have c2' := (hof.2.2.2.2.cell (p := ⟨b, o + k * 2 + 1, none⟩) hb).trans c2
        by_cases hin : (i : Int) < hi
        · have hnext := PlIn.step hai hi1 hin hof
          obtain ⟨f1, f2⟩ := hof.cell (i := i) (by omega)
          have hi64 : i < 64 := by omega
          go_wp2_with (go_at_call 50; refine (rcut_any _ _).mono ?_; rintro e w' ⟨rfl, rfl⟩)
          go_roundw
          case rel => exact hnext
          case measure => simp [intOf]; omega
        · go_wp2_with (go_at_call 50; refine (rcut_any _ _).mono ?_; rintro e w' ⟨rfl, rfl⟩)
          go_roundw
          case rel =>
            refine ⟨k + 1, by omega, by go_num, hof.ext fun j hj => ?_⟩
            rw [HT.out]
            congr 1
            by_cases h1 : x ≤ (j : Int)
            · by_cases h2 : (j : Int) < y
              · simp [h1, h2]; omega
              · simp [h1, h2]; omega
            · simp [h1]; omega
          case measure => simp [intOf]; omega
    · obtain rfl : k = n := by omega
      have hin : inRuns (l.take k) = inRuns l := inRuns_all l k (by have := hr.1; omega)
      rw [hin] at hrel
      obtain ⟨h1, h2, h3, h4, h5⟩ := hrel
      go_wp2_with (first
        | (refine wpList_load_row rfl 64 (.tmp 3) rfl _ rfl _ _ _ _ h2 Try.underlying64 rfl (by rw [rowC_size]; kernel_rfl) ?_)
        | (refine wpList_store_row rfl 64 (.tmp 2) (.tmp 30) rfl _ (rowC (inRuns l)) rfl rfl _ _ h1 (by rw [rowC_size]; kernel_rfl) (by rw [rowC_size, rowC_size]) (rowC_one _) ?_))
      exact ret_struct1 rfl rfl (h1.row _) Try.underlying64 rfl (by rw [rowC_size]; kernel_rfl) rfl ⟨rfl, brow h5 h3 _⟩

def ofB (k : Int) (x y : Bool) : Bool := if k = 1 then x || y else if k = 2 then x && y else if k = 3 then x && !y else x != y
end Go.Proofs.Ytmjpmeigfdgioaa.sp
