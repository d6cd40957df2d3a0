/-
  Slices of numbers that a call makes itself, as lists; and Same of two lists alike.
-/
import Derived.Test.YtegpjjkbbdfggaaStep
namespace Go.Proofs.Ytegpjjkbbdfggaa.im
set_option linter.unusedVariables false
set_option linter.unusedSimpArgs false
open Go.RowKit bs mt

def numL (l : List Int) : List Value := l.map fun x => .int .i64 x
/-- the slice value owns the numbers l, in blocks from 'base' on -/
def OwnInts (w : World) (base : Nat) (v : Value) (l : List Int) : Prop := w.ownsRow base 3 1 v l.length (numL l)
/-- the slice value reads as the numbers l -/
def IntsV (w : World) (v : Value) (l : List Int) : Prop :=
  ∃ A c, v = .slice A l.length c ∧ (0 < l.length → ∃ b, A = some ⟨b, 0, none⟩ ∧ b < w.heap.size ∧ ∀ (j : Nat) (h : j < l.length), w.cell? ⟨b, j, none⟩ = some (.int .i64 l[j]))
theorem IntsV.below {w w' : World} {v : Value} {l : List Int} (h : IntsV w v l) (hb : Below w.heap.size w w') : IntsV w' v l := by
  obtain ⟨A, c, e, h⟩ := h
  refine ⟨A, c, e, fun hn => ?_⟩
  obtain ⟨b, e2, hlt, hc⟩ := h hn
  exact ⟨b, e2, Nat.lt_of_lt_of_le hlt hb.size, fun j hj => (hb.cell (p := ⟨b, j, none⟩) hlt).trans (hc j hj)⟩
theorem IntsV.nil_ (w : World) : IntsV w (.slice none 0 0) [] := ⟨none, 0, rfl, fun h => absurd h (by simp)⟩
theorem OwnInts.ints {w : World} {base : Nat} {v : Value} {l : List Int} (h : OwnInts w base v l) : IntsV w v l := by
  have hh := h
  rcases h.2 with ⟨rfl, h0⟩ | ⟨g, cap, cur, rfl, hb, hg, hn, hm, hs, ht⟩
  · have : l = [] := List.eq_nil_of_length_eq_zero h0
    subst this
    exact IntsV.nil_ w
  · refine ⟨_, _, rfl, fun _ => ⟨g, rfl, (Array.getElem?_eq_some_iff.1 hg).1, fun j hj => ?_⟩⟩
    rw [World.ownsRow.cellAt (g := g) (cap := cap) hh j (by omega)]
    simp [numL, hj]
theorem own_below {w w' : World} {base : Nat} {v : Value} {l : List Int} (h : OwnInts w base v l) (hb : Below w.heap.size w w') : OwnInts w' base v l := by
  refine ⟨h.1, ?_⟩
  rcases h.2 with h0 | ⟨g, cap, cur, e, h1, hg, h2⟩
  · exact .inl h0
  · exact .inr ⟨g, cap, cur, e, h1, (hb.block g (Array.getElem?_eq_some_iff.1 hg).1).trans hg, h2⟩
theorem own_far {w : World} {base : Nat} {v : Value} {l : List Int} (h : OwnInts w base v l) {p : Addr} (hp : p.block < base) (u : Value) : OwnInts (w.setCell p u) base v l := by
  refine ⟨h.1, ?_⟩
  rcases h.2 with h0 | ⟨g, cap, cur, e, h1, hg, h2⟩
  · exact .inl h0
  · exact .inr ⟨g, cap, cur, e, h1, (Below.heap_setCell w p u g (by omega)).trans hg, h2⟩
theorem one_new (w : World) (x : Value) (t : TypeId) : ∀ (j : Nat) (u : Value), [x][j]? = some u → (w.alloc (.cells #[x] t)).cell? ((⟨w.heap.size, 0, none⟩ : Addr).add j) = some u := by
  intro j u hu
  have hadd : (⟨w.heap.size, 0, none⟩ : Addr).add j = ⟨w.heap.size, j, none⟩ := by unfold Addr.add; split <;> simp_all
  rw [hadd, (Blk.new w t #[x]).cell]
  simpa using hu
theorem own_put {W wr w1 : World} {base : Nat} {v v1 : Value} {l : List Int} {x : Int} {o : Obj} (h : OwnInts wr base v l) (hb : Below W.heap.size W wr) (hB : W.heap.size ≤ base) (hbs : base ≤ wr.heap.size)
    (hown : w1.ownsRow base 3 1 v1 (l.length + 1) (numL l ++ [.int .i64 x])) (hg : (wr.alloc o).grownBy w1 v.ownBlock) :
    OwnInts w1 base v1 (l ++ [x]) ∧ Below W.heap.size W w1 ∧ base ≤ w1.heap.size ∧ ∀ g t cs, Blk wr g t cs → g < base → Blk w1 g t cs := by
  have hne : ∀ k, v.ownBlock = some k → base ≤ k := fun k hk => (h.lt k hk).1
  have hs : wr.heap.size ≤ w1.heap.size := by have := hg.size; simp at this; omega
  refine ⟨?_, ?_, by omega, fun g t cs hk hlt => ?_⟩
  · unfold OwnInts numL
    have := hown
    unfold numL at this
    simpa using this
  · exact (hb.alloc hb.size o).grown hg (by have := hb.size; simp; omega) (fun k hk => by have := hne k hk; omega)
  · refine (hk.alloc o).grown hg ?_
    intro he
    have := hne g he.symm
    omega
end Go.Proofs.Ytegpjjkbbdfggaa.im
