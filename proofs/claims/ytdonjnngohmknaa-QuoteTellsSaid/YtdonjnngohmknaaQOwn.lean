/-
  Bytes that a function makes itself, and bytes that lie in memory (out of layer 39's tools): an append to them.
-/
import Derived.Test.YtdonjnngohmknaaLeafO
namespace Go.Proofs.Ytdonjnngohmknaa.lf
set_option linter.unusedVariables false
set_option linter.unusedSimpArgs false
open Go.RowKit bs

def LB (w : World) (A : Option Addr) (n c : Nat) (l : List UInt8) : Prop := Bytes w A n c l ∧ (A = none ∨ ∃ b o, A = some ⟨b, o, none⟩ ∧ b < w.heap.size)
theorem LB.below {w w' : World} {A : Option Addr} {n c : Nat} {l : List UInt8} (h : LB w A n c l) (hb : Below w.heap.size w w') : LB w' A n c l := by
  obtain ⟨h1, h2⟩ := h
  refine ⟨h1.below hb, ?_⟩
  rcases h2 with h2 | ⟨b, o, e, h2⟩
  · exact .inl h2
  · exact .inr ⟨b, o, e, Nat.lt_of_lt_of_le h2 hb.size⟩
theorem LB.len {w : World} {A : Option Addr} {n c : Nat} {l : List UInt8} (h : LB w A n c l) : l.length = n := h.1.1
theorem LB.adr {w : World} {A : Option Addr} {n c : Nat} {l : List UInt8} (h : LB w A n c l) : ∀ a : Addr, A = some a → a.block < w.heap.size := by
  rcases h.2 with h2 | ⟨b, o, e, h2⟩
  · intro a e; rw [h2] at e; cases e
  · intro a e'; rw [e] at e'; cases e'; exact h2
theorem LB.str {w : World} {A : Option Addr} {n c : Nat} {l : List UInt8} (h : LB w A n c l) : (convert 31 9 (.slice A n c)).run Try.prog w = .ok (.string ⟨l.toArray⟩) w := by
  rcases h.2 with rfl | ⟨b, o, rfl, _⟩
  · obtain ⟨h1, _, h3⟩ := h.1
    have hn : n = 0 := by
      rcases Nat.eq_zero_or_pos n with h | h
      · exact h
      · obtain ⟨_, _, e, _⟩ := h3 h; cases e
    subst hn
    have : l = [] := List.eq_nil_of_length_eq_zero h1
    subst this
    rfl
  · exact lf.Bytes.str h.1
theorem OwnB.lb {w : World} {base : Nat} {v : Value} {l : List UInt8} (h : OwnB w base v l) : ∃ A c, v = .slice A l.length c ∧ LB w A l.length c l := by
  obtain ⟨A, c, e, hb, hk⟩ := h.bytes
  refine ⟨A, c, e, hb, ?_⟩
  rcases h.2 with ⟨e0, _⟩ | ⟨g, cap, cur, e1, _⟩
  · have e' := e0.symm.trans e
    injection e' with e1 e2 e3
    exact .inl e1.symm
  · have hk2 := (hk g (by rw [e1]; rfl)).2
    have e' := e1.symm.trans e
    injection e' with e1 e2 e3
    exact .inr ⟨g, 0, e1.symm, hk2⟩
theorem LB.of_pos {w : World} {A : Option Addr} {n c : Nat} {l : List UInt8} (h : Bytes w A n c l) (hn : 0 < n) : LB w A n c l := by
  obtain ⟨b, o, e, hlt, _⟩ := h.2.2 hn
  exact ⟨h, .inr ⟨b, o, e, hlt⟩⟩
theorem LB.new (w : World) (cs : Array Value) (n : Nat) (l : List UInt8) (h : cs.toList = vals l) (hn : l.length = n) : LB (w.alloc (.cells cs 5)) (some ⟨w.heap.size, 0, none⟩) n n l := by
  refine ⟨Bytes.of_blk (Blk.new w _ cs) hn (Nat.le_refl _) (fun j hj => ?_), .inr ⟨_, _, rfl, by simp⟩⟩
  rw [← Array.getElem?_toList, h]
  simp [vals, List.getElem?_eq_getElem hj]

theorem LB.take {w : World} {A : Option Addr} {n c i : Nat} {l : List UInt8} (h : LB w A n c l) (hi : i ≤ n) : LB w A i c (l.take i) := by
  obtain ⟨⟨h1, h2, h3⟩, h4⟩ := h
  refine ⟨⟨by simp; omega, by omega, fun hn => ?_⟩, h4⟩
  obtain ⟨b, o, e, hlt, hc⟩ := h3 (by omega)
  exact ⟨b, o, e, hlt, fun j hj => by rw [List.getElem_take]; exact hc j (by simp at hj; omega)⟩

theorem OwnB.lbn {w : World} {base n : Nat} {v : Value} {l : List UInt8} (h : OwnB w base v l) (hn : l.length = n) : ∃ A c, v = .slice A n c ∧ LB w A n c l := by
  subst hn
  exact h.lb

/-- append to bytes that the function made itself -/
theorem wpList_push {ops : Array Oper} {rest : List Oper} {o : Oper} {a : Act} {Q : Exit → Act → World → Prop} {u w : World} (s x : Operand) (v : Value) (A : Option Addr) (m c : Nat) (l k : List UInt8) (hgd : o.guard = none)
    (ho : o.op = .call { callee := .builtin .append, args := #[s, x], argTypes := #[31, 31] })
    (hs : a.eval s = v) (hx : a.eval x = .slice A m c) (hown : OwnB w u.heap.size v l) (hk : LB w A m c k) (hbu : Below u.heap.size u w) (hn : l.length + m ≤ 20000)
    (h : ∀ v' w', OwnB w' u.heap.size v' (l ++ k) → Below u.heap.size u w' → wpList Try.prog ops Q rest (a.put o.dst v') w') : wpList Try.prog ops Q (o :: rest) a w := by
  obtain ⟨i0, hi, hz0, hz1, hz2⟩ := info_parts (show (Try.prog.info? 5).map (fun i => (i.zero, i.size, i.bytes)) = some (some (.int .u8 0), 1, 1) by kernel_rfl)
  have hlen := hk.len
  refine wpList_append_any _ hgd s x 31 ho u.heap.size 5 i0 (.int .u8 0) 1 1 Try.underlying31 hi hz0 hz1 hz2 rfl (by omega) v l.length (vals l) hs hown _ A m c (vals k) hx (lf.Bytes.reads hk.1) (vals_one _) (by simp [maxLen]; omega) (by omega) hbu.size ?_
  intro v' w' hown' hg _
  exact h v' w' (OwnB.push hown' hlen.symm) (grown_below hown hbu (Nat.le_refl _) hg)
end Go.Proofs.Ytdonjnngohmknaa.lf
