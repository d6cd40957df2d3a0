/-
  Layer 39: tools for the laws: an append to an empty slice; sides by a number; cuts of bytes.
-/
import Derived.Test.YtfmkdccpgkbnoaaLeafK
import Derived.Test.YtfmkdccpgkbnoaaLawPage
namespace Go.Proofs.Ytfmkdccpgkbnoaa.lf
set_option linter.unusedVariables false
set_option linter.unusedSimpArgs false
open Go.RowKit bs rg

theorem side_fix (x n : Int) (h0 : 0 < n) (h1 : n ≤ 64) : ∃ W : Nat, (1 ≤ W ∧ W ≤ 64) ∧ (W : Int) ≤ n ∧ 1 + x % n = (W : Int) ∧ 0 ≤ x % n ∧ x % n ≤ 63 := by
  have a := Int.emod_nonneg x (show n ≠ 0 by omega)
  have b := Int.emod_lt_of_pos x h0
  exact ⟨(1 + x % n).toNat, by omega, by omega, by omega, a, by omega⟩
theorem place_fix (x : Int) (n : Nat) (h0 : 0 < n) : ∃ i : Nat, x % (n : Int) = (i : Int) ∧ i < n := by
  have a := Int.emod_nonneg x (show (n : Int) ≠ 0 by omega)
  have b := Int.emod_lt_of_pos x (show (0 : Int) < n by omega)
  exact ⟨(x % (n : Int)).toNat, by omega, by omega⟩
theorem LB.take {w : World} {A : Option Addr} {n c i : Nat} {l : List UInt8} (h : LB w A n c l) (hi : i ≤ n) : LB w A i c (l.take i) := by
  obtain ⟨⟨h1, h2, h3⟩, h4⟩ := h
  refine ⟨⟨by simp; omega, by omega, fun hn => ?_⟩, h4⟩
  obtain ⟨b, o, e, hlt, hc⟩ := h3 (by omega)
  exact ⟨b, o, e, hlt, fun j hj => by rw [List.getElem_take]; exact hc j (by simp at hj; omega)⟩

theorem OwnB.lbn {w : World} {base n : Nat} {v : Value} {l : List UInt8} (h : OwnB w base v l) (hn : l.length = n) : ∃ A c, v = .slice A n c ∧ LB w A n c l := by
  subst hn
  exact h.lb

/-- append to an empty slice that has just been made -/
theorem wpList_copy {ops : Array Oper} {rest : List Oper} {o : Oper} {a : Act} {Q : Exit → Act → World → Prop} {u : World} (s x : Operand) (A : Option Addr) (n c : Nat) (l : List UInt8) (hgd : o.guard = none) 
    (ho : o.op = .call { callee := .builtin .append, args := #[s, x], argTypes := #[22, 22] })
    (hs : a.eval s = .slice (some ⟨u.heap.size, 0, none⟩) 0 0) (hx : a.eval x = .slice A n c) (hl : Bytes u A n c l) (hn : n ≤ 20000)
    (h : ∀ v w', OwnB w' u.heap.size v l → Below u.heap.size u w' → wpList Try.prog ops Q rest (a.put o.dst v) w') : wpList Try.prog ops Q (o :: rest) a (u.alloc (.cells #[] 5)) := by
  obtain ⟨i0, hi, hz0, hz1, hz2⟩ := info_parts (show (Try.prog.info? 5).map (fun i => (i.zero, i.size, i.bytes)) = some (some (.int .u8 0), 1, 1) by kernel_rfl)
  have hl' := hl.below (balloc (Below.refl _ _) (.cells #[] 5))
  have hlen := hl.1
  refine wpList_append_any _ hgd s x 22 ho u.heap.size 5 i0 (.int .u8 0) 1 1 Try.underlying22 hi hz0 hz1 hz2 rfl (by omega) _ 0 [] hs (own_empty u u.heap.size _ rfl (Nat.le_refl _)) _ A n c (vals l) hx (lf.Bytes.reads hl') (vals_one _) (by simp [maxLen]; omega) (by omega) (by simp) ?_
  intro v w' hown hg _
  refine h v w' ?_ ?_
  · exact OwnB.push (l := []) (x := l) hown hlen.symm
  · exact Below.grown (balloc (Below.refl _ _) _) hg (by simp) (fun k e => by cases e; exact Nat.le_refl _)
/-- append to bytes that the function made itself -/
theorem wpList_push {ops : Array Oper} {rest : List Oper} {o : Oper} {a : Act} {Q : Exit → Act → World → Prop} {u w : World} (s x : Operand) (v : Value) (A : Option Addr) (m c : Nat) (l k : List UInt8) (hgd : o.guard = none)
    (ho : o.op = .call { callee := .builtin .append, args := #[s, x], argTypes := #[22, 22] })
    (hs : a.eval s = v) (hx : a.eval x = .slice A m c) (hown : OwnB w u.heap.size v l) (hk : LB w A m c k) (hbu : Below u.heap.size u w) (hn : l.length + m ≤ 20000)
    (h : ∀ v' w', OwnB w' u.heap.size v' (l ++ k) → Below u.heap.size u w' → wpList Try.prog ops Q rest (a.put o.dst v') w') : wpList Try.prog ops Q (o :: rest) a w := by
  obtain ⟨i0, hi, hz0, hz1, hz2⟩ := info_parts (show (Try.prog.info? 5).map (fun i => (i.zero, i.size, i.bytes)) = some (some (.int .u8 0), 1, 1) by kernel_rfl)
  have hlen := hk.len
  refine wpList_append_any _ hgd s x 22 ho u.heap.size 5 i0 (.int .u8 0) 1 1 Try.underlying22 hi hz0 hz1 hz2 rfl (by omega) v l.length (vals l) hs hown _ A m c (vals k) hx (lf.Bytes.reads hk.1) (vals_one _) (by simp [maxLen]; omega) (by omega) hbu.size ?_
  intro v' w' hown' hg _
  exact h v' w' (OwnB.push hown' hlen.symm) (grown_below hown hbu (Nat.le_refl _) hg)
/-- bytes that the function made itself, where one is to be changed -/
theorem OwnB.slot {w : World} {base n : Nat} {v : Value} {l : List UInt8} (h : OwnB w base v l) (hn : l.length = n) (h0 : 0 < n) : ∃ g c, v = .slice (some ⟨g, 0, none⟩) n c ∧ base ≤ g ∧ g < w.heap.size ∧ n ≤ c ∧
    (∀ i, i < n → w.cell? ⟨g, i, none⟩ = some (.int .u8 ((l.getD i 0).toNat : Int)) ∧ w.frozen? ⟨g, i, none⟩ = false) ∧ ∀ i (x : UInt8), i < n → LB (w.setCell ⟨g, i, none⟩ (.int .u8 (x.toNat : Int))) (some ⟨g, 0, none⟩) n c (l.set i x) := by
  subst hn
  obtain ⟨g, c, cs, e, hge, hB, hc, hm, hcs, htk⟩ := h.blk h0
  refine ⟨g, c, e, hge, hB.lt, hc, fun i hi => ⟨?_, hB.frozen i⟩, fun i x hi => ?_⟩
  · rw [hB.cell]
    exact take_cell htk i hi
  · have ho := OwnB.store (j := i) x hB hge hc hm hcs htk
    obtain ⟨A, d, e2, h2⟩ := OwnB.lbn (n := l.length) ho (by simp)
    injection e2 with e3 e4 e5
    subst e3; subst e5
    exact h2
theorem size_alloc (u : World) (o : Obj) : (u.alloc o).heap.size = u.heap.size + 1 := by simp
theorem byte_of (k : Int) (h : 0 ≤ k ∧ k ≤ 255) : ∃ q : UInt8, k = (q.toNat : Int) := ⟨UInt8.ofNat k.toNat, (u8_of k h.1 h.2).symm⟩
end Go.Proofs.Ytfmkdccpgkbnoaa.lf
