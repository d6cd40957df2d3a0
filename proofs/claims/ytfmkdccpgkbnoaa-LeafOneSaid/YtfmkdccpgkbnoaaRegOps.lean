/-
  Regions: both (Less, Join), Rect, All, Band. (PRUNE)
-/
import Derived.Test.YtfmkdccpgkbnoaaRegMade
namespace Go.Proofs.Ytfmkdccpgkbnoaa.rg
set_option linter.unusedVariables false
set_option linter.unusedSimpArgs false
open Go.RowKit bs sp ik

theorem norm_two (h : Bool → Bool → Bool) (W : Nat) (R S : Nat → Nat → Bool) (j : Nat) (hW : W ≤ 64) : norm (two h (rowsOf W R j) (rowsOf W S j)) W = rowsOf W (fun j i => h (R j i) (S j i)) j := by
  unfold norm two rowsOf
  rw [show (max 0 (min (W : Int) 64)).toNat = W by omega]
  refine rl_ext W fun i hi => ?_
  rw [inRuns_rl, inRuns_rl, inRuns_rl]
  simp [hi, show i < 64 by omega]
theorem norm_row (W : Nat) (R : Nat → Nat → Bool) (j : Nat) (hW : W ≤ 64) : norm (rowsOf W R j) W = rowsOf W R j := by
  unfold norm rowsOf
  rw [show (max 0 (min (W : Int) 64)).toNat = W by omega]
  exact rl_again _ _
theorem two_len (h : Bool → Bool → Bool) (l m : List (Int × Int)) : (two h l m).length ≤ 64 := by unfold two; exact (rl_len _ 64).1
theorem mkfunc (fn : Fn) (first cap : Array Value) (w : World) : (Instr.makeFunc fn first cap).run Try.prog w = .ok (.func fn first cap) w := rfl
theorem keepB {W0 a w' : World} {b b2 b3 : Nat} {o2 o3 : Nat} {v v2 v3 v4 v5 : Value} {b4 b5 o4 o5 : Nat} (hb : Below a.heap.size a w') (h : Below W0.heap.size W0 a ∧ a.cell? ⟨b, 0, none⟩ = some v ∧ a.cell? ⟨b2, o2, none⟩ = some v2 ∧ a.cell? ⟨b3, o3, none⟩ = some v3 ∧ a.cell? ⟨b4, o4, none⟩ = some v4 ∧ a.cell? ⟨b5, o5, none⟩ = some v5) :
    Below W0.heap.size W0 w' ∧ w'.cell? ⟨b, 0, none⟩ = some v ∧ w'.cell? ⟨b2, o2, none⟩ = some v2 ∧ w'.cell? ⟨b3, o3, none⟩ = some v3 ∧ w'.cell? ⟨b4, o4, none⟩ = some v4 ∧ w'.cell? ⟨b5, o5, none⟩ = some v5 := by
  obtain ⟨h1, h2, h3, h4, h5, h6⟩ := h
  exact ⟨btrans h1 hb, (hb.cell (p := ⟨b, 0, none⟩) (block_lt_of_cell h2)).trans h2, (hb.cell (p := ⟨b2, o2, none⟩) (block_lt_of_cell h3)).trans h3, (hb.cell (p := ⟨b3, o3, none⟩) (block_lt_of_cell h4)).trans h4, (hb.cell (p := ⟨b4, o4, none⟩) (block_lt_of_cell h5)).trans h5, (hb.cell (p := ⟨b5, o5, none⟩) (block_lt_of_cell h6)).trans h6⟩

/-- what an operation on two lists of runs keeps: its contract -/
def TwoC (f : FuncId) (h : Bool → Bool → Bool) : Prop := ∀ (A B : Option Addr) (n c m d : Nat) (l k : List (Int × Int)) (w : World), Runs w A n c l → Runs w B m d k → n ≤ 9223372036854775807 → m ≤ 9223372036854775807 →
  Calls Try.prog f #[.slice A n c, .slice B m d] w fun e w' => ∃ A' c', e = .returned (.slice A' (two h l k).length c') ∧ Runs w' A' (two h l k).length c' (two h l k) ∧ Below w.heap.size w w'

theorem rowsOf_mayAll (W H : Nat) (R : Nat → Nat → Bool) (hW : W ≤ 64) : ∀ j, j < H → mayB (rowsOf W R j) W = true := fun j _ => rowsOf_mayB W R j hW
theorem zreg (w : World) : Blk (w.alloc (.cells #[.int .i64 0, .int .i64 0, .slice none 0 0] 49)) w.heap.size 49 #[.int .i64 0, .int .i64 0, .slice none 0 0] := Blk.new _ _ _
/-- rows that a store into a region's empty box leaves alone -/
theorem Rows.setBox {w : World} {r : Nat} {t : TypeId} {g H : Nat} {W : Nat} {R : Nat → Nat → Bool} (h : Rows w (some ⟨g, 0, none⟩) H H (rowsOf W R)) (hne : g ≠ r) (K : Blk w r t #[.int .i64 0, .int .i64 0, .slice none 0 0]) (u0 u1 u2 : Value) :
    Rows (((w.setCell ⟨r, 0, none⟩ u0).setCell ⟨r, 1, none⟩ u1).setCell ⟨r, 2, none⟩ u2) (some ⟨g, 0, none⟩) H H (rowsOf W R) := by
  obtain ⟨h1, h2⟩ := h
  refine ⟨h1, fun hn => ?_⟩
  obtain ⟨b, o, e, hlt, hc⟩ := h2 hn
  cases e
  refine ⟨g, 0, rfl, by simpa using hlt, fun j hj => ?_⟩
  obtain ⟨hl, Aj, cj, q1, q2⟩ := hc j hj
  have far : ∀ (v : World) (o1 o2 : Nat) (u : Value), (v.setCell ⟨r, o1, none⟩ u).cell? ⟨g, o2, none⟩ = v.cell? ⟨g, o2, none⟩ := fun v o1 o2 u => World.cell?_setCell_other v _ _ u (fun e => hne (Addr.mk.inj e).1.symm)
  exact ⟨hl, Aj, cj, by rw [far, far, far]; exact q1, Runs.setBox q2 (fun s hs => (may_each (rowsOf_may W R j) s hs).2.1) K _ _ _⟩

end Go.Proofs.Ytfmkdccpgkbnoaa.rg
