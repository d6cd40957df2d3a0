/-
  Lay's closure: a pixel's three bytes are copied. (PRUNE)
-/
import Derived.Test.YtmjpmeigfdgioaaPut1
import Derived.Test.YtmjpmeigfdgioaaUpTail
import Derived.BigQuiet
import Derived.Laws.IdiomCopy
namespace Go.Proofs.Ytmjpmeigfdgioaa.rg
set_option linter.unusedVariables false
set_option linter.unusedSimpArgs false
open Go.RowKit bs sp ik

/-- what the two boxes and the two pages hold while Lay goes on -/
def LRel (g n pB qB : Nat) (pv qv : Array Value) (b o d : Nat) (C B : Nat → Int) (wr : World) : Prop :=
  ∃ cs, Blk wr g 5 cs ∧ Holds cs n B ∧ Blk wr pB 30 pv ∧ Blk wr qB 30 qv ∧ Pg wr (some ⟨b, o, none⟩) n d C
theorem LRel.below {g n pB qB : Nat} {pv qv : Array Value} {b o d : Nat} {C B : Nat → Int} {wr w' : World} (h : LRel g n pB qB pv qv b o d C B wr) (hb : Below wr.heap.size wr w') : LRel g n pB qB pv qv b o d C B w' := by
  obtain ⟨cs, h1, h2, h3, h4, h5⟩ := h
  exact ⟨cs, h1.below hb h1.lt, h2, h3.below hb h3.lt, h4.below hb h4.lt, h5.below hb⟩
theorem LRel.ext {g n pB qB : Nat} {pv qv : Array Value} {b o d : Nat} {C B B' : Nat → Int} {wr : World} (h : LRel g n pB qB pv qv b o d C B wr) (e : ∀ j, j < n → B j = B' j) : LRel g n pB qB pv qv b o d C B' wr := by
  obtain ⟨cs, h1, h2, h3⟩ := h
  exact ⟨cs, h1, h2.ext e, h3⟩
theorem Pg.far {w : World} {b o n c g k : Nat} {B : Nat → Int} (h : Pg w (some ⟨b, o, none⟩) n c B) (hb : b ≠ g) (u : Value) : Pg (w.setCell ⟨g, k, none⟩ u) (some ⟨b, o, none⟩) n c B := by
  obtain ⟨h1, b', o', e, hlt, hx⟩ := h
  cases e
  refine ⟨h1, b, o, rfl, by simpa using hlt, fun j hj => ⟨?_, (hx j hj).2⟩⟩
  rw [World.cell?_setCell_other (h := fun e => hb (Addr.mk.inj e).1.symm)]
  exact (hx j hj).1
theorem LRel.put {g n pB qB : Nat} {pv qv : Array Value} {b o d : Nat} {C B : Nat → Int} {wr : World} (h : LRel g n pB qB pv qv b o d C B wr) (k : Nat) (v : Int) (h0 : 0 ≤ v) (h1 : v ≤ 255) (hp : pB ≠ g) (hq : qB ≠ g) (hb : b ≠ g) : LRel g n pB qB pv qv b o d C (fun j => if j = k then v else B j) (wr.setCell ⟨g, k, none⟩ (.int .u8 v)) := by
  obtain ⟨cs, h1', h2, h3, h4, h5⟩ := h
  exact ⟨_, h1'.set_ k _, h2.put k v h0 h1, h3.far hp _, h4.far hq _, h5.far hb _⟩
/-- three bytes from m on are C's -/
def cpy (m : Nat) (C B : Nat → Int) (j : Nat) : Int := if m ≤ j ∧ j < m + 3 then C j else B j

set_option maxRecDepth 100000 in
set_option maxHeartbeats 3200000 in
theorem lay1_any (g n f pB qB m b o d : Nat) (W H : Int) (C B : Nat → Int) (w : World) (hn : n ≤ 12288) (hnf : n ≤ f) (hm : m + 3 ≤ n) (hp : pB ≠ g) (hq : qB ≠ g) (hb : b ≠ g)
    (hR : LRel g n pB qB #[.int .i64 W, .int .i64 H, .slice (some ⟨g, 0, none⟩) n f] #[.int .i64 W, .int .i64 H, .slice (some ⟨b, o, none⟩) n d] b o d C B w) :
    Calls Try.prog 49 #[.int .i64 (m : Int), .pointer (some ⟨pB, 0, none⟩), .pointer (some ⟨qB, 0, none⟩)] w fun e w' => e = .returned (.tuple #[]) ∧
      LRel g n pB qB #[.int .i64 W, .int .i64 H, .slice (some ⟨g, 0, none⟩) n f] #[.int .i64 W, .int .i64 H, .slice (some ⟨b, o, none⟩) n d] b o d C (cpy m C B) w' ∧ w.grownBy w' (some g) := by
  obtain ⟨cs, h1, h2, h3, h4, h5⟩ := id hR
  have p2 := h3.cell 2
  have q2 := h4.cell 2
  simp only [List.getElem?_toArray, List.getElem?_cons_succ, List.getElem?_cons_zero] at p2 q2
  obtain ⟨hnd, _, _, e_, hlt, hx⟩ := id h5
  cases e_
  have g0 : w.cell? ⟨g, m, none⟩ = some (.int .u8 (B m)) := by rw [h1.cell]; exact (h2.2 m (by omega)).1
  have g1 : w.cell? ⟨g, m + 1, none⟩ = some (.int .u8 (B (m + 1))) := by rw [h1.cell]; exact (h2.2 (m + 1) (by omega)).1
  have g2 : w.cell? ⟨g, m + 2, none⟩ = some (.int .u8 (B (m + 2))) := by rw [h1.cell]; exact (h2.2 (m + 2) (by omega)).1
  have f0 := h1.frozen m
  have f1 := h1.frozen (m + 1)
  have f2 := h1.frozen (m + 2)
  obtain ⟨c0, c0a, c0b⟩ := hx m (by omega)
  obtain ⟨c1, c1a, c1b⟩ := hx (m + 1) (by omega)
  obtain ⟨c2, c2a, c2b⟩ := hx (m + 2) (by omega)
  rw [← Nat.add_assoc] at c1 c2
  have HX := Lib.hid hx
  have HR := Lib.hid hR
  obtain ⟨z0, hz0⟩ : ∃ z, C m = z := ⟨_, rfl⟩
  obtain ⟨z1, hz1⟩ : ∃ z, C (m + 1) = z := ⟨_, rfl⟩
  obtain ⟨z2, hz2⟩ : ∃ z, C (m + 2) = z := ⟨_, rfl⟩
  rw [hz0] at c0 c0a c0b
  rw [hz1] at c1 c1a c1b
  rw [hz2] at c2 c2a c2b
  have E0 := Lib.hid hz0
  have E1 := Lib.hid hz1
  have E2 := Lib.hid hz2
  clear hz0 hz1 hz2
  generalize B m = y0 at *
  generalize B (m + 1) = y1 at *
  generalize B (m + 2) = y2 at *
  have cx : ¬ f = m := by omega
  have cy : ¬ d = m := by omega
  have jw : IntKind.i64.wrap ((m : Int) + 3) = (m : Int) + 3 := by simp only [IntKind.wrap, IntKind.signed, IntKind.bits]; simp; omega
  have j0 : ((m : Int) + 3).toNat = m + 3 := by omega
  have j2 : m + 3 - m = 3 := by omega
  have j3 : m + 3 ≤ f := by omega
  have j4 : m + 3 ≤ d := by omega
  have hrun : ∀ ty, (Builtin.copy_ #[28, 28] ty #[.slice (some ⟨g, m, none⟩) 3 (f - m), .slice (some ⟨b, o + m, none⟩) 3 (d - m)]).run Try.prog w.drew = .ok (goInt 3) (((w.drew.setCell ⟨g, m, none⟩ (.int .u8 z0)).setCell ⟨g, m + 1, none⟩ (.int .u8 z1)).setCell ⟨g, m + 2, none⟩ (.int .u8 z2)) := fun ty => by
    refine run_copy_cells (P := Try.prog) w.drew 28 28 ty 5 g m 3 (f - m) ⟨b, o + m, none⟩ 3 (d - m) [.int .u8 z0, .int .u8 z1, .int .u8 z2] Try.underlying28 (by kernel_rfl) rfl (fun j v hj => ?_) (fun j hj => ?_) (fun j hj => ?_) (by simp [Value.oneCell'])
    · rw [Go.WideShapes.add_plain]
      rcases (show j = 0 ∨ j = 1 ∨ j = 2 ∨ 3 ≤ j by omega) with rfl | rfl | rfl | h
      · exact c0.trans hj
      · exact c1.trans hj
      · exact c2.trans hj
      · rw [List.getElem?_eq_none (by simpa using h)] at hj; cases hj
    · have hj3 : j < 3 := hj
      rcases (show j = 0 ∨ j = 1 ∨ j = 2 by omega) with rfl | rfl | rfl
      · exact congrArg Option.isSome g0
      · exact congrArg Option.isSome g1
      · exact congrArg Option.isSome g2
    · have hj3 : j < 3 := hj
      rcases (show j = 0 ∨ j = 1 ∨ j = 2 by omega) with rfl | rfl | rfl
      · exact f0
      · exact f1
      · exact f2
  have sN1 := hR.put m z0 c0a c0b hp hq hb
  have sN2 := sN1.put (m + 1) z1 c1a c1b hp hq hb
  have hN := sN2.put (m + 2) z2 c2a c2b hp hq hb
  clear sN1 sN2
  have sG1 : w.grownBy (w.setCell ⟨g, m, none⟩ (.int .u8 z0)) (some g) := only_setCell (World.grownBy.refl w (some g)) (p := ⟨g, m, none⟩) (.inl rfl) _
  have sG2 := only_setCell sG1 (p := ⟨g, m + 1, none⟩) (.inl rfl) (.int .u8 z1)
  have hG := only_setCell sG2 (p := ⟨g, m + 2, none⟩) (.inl rfl) (.int .u8 z2)
  clear sG1 sG2
  have HN := Lib.hid hN
  have HG := Lib.hid hG
  clear h1 h2 h3 h4 h5 hx hR hN hG
  go_enter Try.func49, Try.ntmps49
  go_wp2_with fail
  go_region
  go_wp2_with fail
  go_end0
  refine ⟨rfl, (LRel.below (HN.out.ext fun j hj => ?_) (Below.drew (Below.refl _ _))), only_drew HG.out⟩
  unfold cpy
  by_cases e2 : j = m + 2
  · subst e2; rw [if_pos rfl, if_pos (by omega), E2.out]
  · rw [if_neg e2]
    by_cases e1 : j = m + 1
    · subst e1; rw [if_pos rfl, if_pos (by omega), E1.out]
    · rw [if_neg e1]
      by_cases e0 : j = m
      · subst e0; rw [if_pos rfl, if_pos (by omega), E0.out]
      · rw [if_neg e0, if_neg (by omega)]
end Go.Proofs.Ytmjpmeigfdgioaa.rg
