/-
  Bytes that a function makes itself: making, growing, storing.
-/
import Derived.Test.YtdonjnngohmknaaLeafM
namespace Go.Proofs.Ytdonjnngohmknaa.lf
set_option linter.unusedVariables false
set_option linter.unusedSimpArgs false
open Go.RowKit bs

theorem OwnB.new (w : World) {base c : Nat} (l : List UInt8) (cs : Array Value) (ht : cs.toList.take l.length = vals l) (hc : l.length ≤ c) (hs : cs.size = c) (hm : c ≤ maxLen) (hb : base ≤ w.heap.size) :
    OwnB (w.alloc (.cells cs 5)) base (.slice (some ⟨w.heap.size, 0, none⟩) l.length c) l :=
  ⟨by simp [vals], .inr ⟨w.heap.size, c, cs, rfl, hb, Blk.new w _ _, hc, hm, by simpa using hs, by simpa using ht⟩⟩
theorem OwnB.none_ (w : World) (base : Nat) : OwnB w base (.slice none 0 0) [] := World.ownsRow_nil _ _ _ _
theorem OwnB.mono {w : World} {base b : Nat} {v : Value} {l : List UInt8} (h : OwnB w base v l) (hb : b ≤ base) : OwnB w b v l := by
  refine ⟨h.1, ?_⟩
  rcases h.2 with h0 | ⟨g, cap, cur, e, h1, h2⟩
  · exact .inl h0
  · exact .inr ⟨g, cap, cur, e, by omega, h2⟩
theorem OwnB.below {w w' : World} {base : Nat} {v : Value} {l : List UInt8} (h : OwnB w base v l) (hb : Below w.heap.size w w') : OwnB w' base v l := by
  refine ⟨h.1, ?_⟩
  rcases h.2 with h0 | ⟨g, cap, cur, e, h1, hg, h2⟩
  · exact .inl h0
  · exact .inr ⟨g, cap, cur, e, h1, (hb.block g (Array.getElem?_eq_some_iff.1 hg).1).trans hg, h2⟩
theorem OwnB.ge {w : World} {base : Nat} {v : Value} {l : List UInt8} (h : OwnB w base v l) : ∀ k, v.ownBlock = some k → base ≤ k ∧ k < w.heap.size := World.ownsRow.lt h
theorem OwnB.grown {w w' : World} {base g : Nat} {v : Value} {l : List UInt8} (h : OwnB w base v l) (hb : w.grownBy w' (some g)) (hg : g < base) : OwnB w' base v l :=
  World.ownsRow.kept h hb (by
    rcases hv : v.ownBlock with _ | k
    · exact .inl rfl
    · have := (h.ge k hv).1
      right
      simp
      omega)
theorem OwnB.push {w1 : World} {base m : Nat} {v1 : Value} {l x : List UInt8} (hown : w1.ownsRow base 5 1 v1 (l.length + m) (vals l ++ vals x)) (hm : m = x.length) : OwnB w1 base v1 (l ++ x) := by
  subst hm
  unfold OwnB
  rw [vals_append, List.length_append]
  exact hown
theorem grown_below {W wr w1 : World} {base : Nat} {v : Value} {l : List UInt8} (h : OwnB wr base v l) (hb : Below W.heap.size W wr) (hB : W.heap.size ≤ base) (hg : wr.grownBy w1 v.ownBlock) : Below W.heap.size W w1 :=
  hb.grown hg hb.size fun k hk => Nat.le_trans hB (h.ge k hk).1
/-- a slice that is not empty: its block -/
theorem OwnB.blk {w : World} {base : Nat} {v : Value} {l : List UInt8} (h : OwnB w base v l) (hn : 0 < l.length) : ∃ g c cs, v = .slice (some ⟨g, 0, none⟩) l.length c ∧ base ≤ g ∧ Blk w g 5 cs ∧ l.length ≤ c ∧ c ≤ maxLen ∧ cs.size = c ∧ cs.toList.take l.length = vals l := by
  rcases h.2 with ⟨_, h0⟩ | ⟨g, cap, cur, h3, h4, h5, h6, h7, h8, h9⟩
  · omega
  · exact ⟨g, cap, cur, h3, h4, h5, h6, h7, by simpa using h8, by simpa using h9⟩
theorem OwnB.of_blk {w : World} {base g c : Nat} {l : List UInt8} {cs : Array Value} (h : Blk w g 5 cs) (hb : base ≤ g) (hc : l.length ≤ c) (hm : c ≤ maxLen) (hs : cs.size = c) (ht : cs.toList.take l.length = vals l) : OwnB w base (.slice (some ⟨g, 0, none⟩) l.length c) l :=
  ⟨by simp [vals], .inr ⟨g, c, cs, rfl, hb, h, hc, hm, by simpa using hs, by simpa using ht⟩⟩
theorem take_cell {cs : Array Value} {l : List UInt8} (ht : cs.toList.take l.length = vals l) (j : Nat) (hj : j < l.length) : cs[j]? = some (.int .u8 ((l.getD j 0).toNat : Int)) := by
  have h := congrArg (fun x : List Value => x[j]?) ht
  simp only [List.getElem?_take, if_pos hj] at h
  rw [Array.getElem?_toList] at h
  rw [h]
  simp [vals, List.getD, List.getElem?_eq_getElem hj]
theorem OwnB.store {w : World} {base g c j : Nat} {l : List UInt8} {cs : Array Value} (x : UInt8) (h : Blk w g 5 cs) (hb : base ≤ g) (hc : l.length ≤ c) (hm : c ≤ maxLen) (hs : cs.size = c) (ht : cs.toList.take l.length = vals l) :
    OwnB (w.setCell ⟨g, j, none⟩ (.int .u8 (x.toNat : Int))) base (.slice (some ⟨g, 0, none⟩) l.length c) (l.set j x) := by
  have := OwnB.of_blk (base := base) (l := l.set j x) (c := c) (h.set_ j (.int .u8 (x.toNat : Int))) hb (by simpa using hc) hm (by simpa using hs) (by
    rw [List.length_set, Array.toList_setIfInBounds, List.take_set, ht]
    simp [vals])
  rwa [List.length_set] at this
theorem ofNat_succ {k : Nat} (h : k < 255) : (UInt8.ofNat k).toNat + 1 = (UInt8.ofNat (k + 1)).toNat := by
  rw [UInt8.toNat_ofNat', UInt8.toNat_ofNat']; omega
theorem ofNat_toNat {k : Nat} (h : k < 256) : (UInt8.ofNat k).toNat = k := by
  rw [UInt8.toNat_ofNat']; omega
theorem four_reads {q : Nat} (hq : q ≤ 63) (w : World) (x y z : UInt8) : Reads (w.alloc (.cells #[.int .u8 (q : Int), .int .u8 (x.toNat : Int), .int .u8 (y.toNat : Int), .int .u8 (z.toNat : Int)] 5)) (w.heap.size + 1) 1 (some ⟨w.heap.size, 0, none⟩) 4 (vals [UInt8.ofNat q, x, y, z]) := by
  refine ⟨rfl, fun _ => ⟨_, rfl, Nat.lt_succ_self _, fun j u hu => ?_⟩⟩
  rw [Go.WideShapes.add_plain, (Blk.new w _ _).cell, Nat.zero_add]
  have e : ((UInt8.ofNat q).toNat : Int) = q := by rw [ofNat_toNat (by omega)]
  simp only [vals, List.map_cons, List.map_nil, e] at hu
  simpa using hu
theorem runs_step {w1 : World} {base g c q : Nat} {cs : Array Value} {d : List (Nat × T)} {p : T} {x y z : UInt8} (hp : p = (x, y, z)) (hd : d.length ≤ 63) (h : Blk w1 g 5 cs) (hb : base ≤ g) (hc : 2 + 4 * d.length + 4 ≤ c) (hm : c ≤ maxLen) (hs : cs.size = c)
    (ht : cs.toList.take (2 + 4 * d.length + 4) = vals ((1 :: UInt8.ofNat d.length :: enc d) ++ [UInt8.ofNat q, x, y, z])) :
    OwnB (w1.setCell ⟨g, 1, none⟩ (.int .u8 ((d.length : Int) + 1))) base (.slice (some ⟨g, 0, none⟩) (2 + 4 * d.length + 4) c) (1 :: UInt8.ofNat (d ++ [(q + 1, p)]).length :: enc (d ++ [(q + 1, p)])) := by
  obtain ⟨l, hl⟩ : ∃ l, (1 :: UInt8.ofNat d.length :: enc d) ++ [UInt8.ofNat q, x, y, z] = l := ⟨_, rfl⟩
  have hll : l.length = 2 + 4 * d.length + 4 := by rw [← hl]; simp [enc_len]; omega
  rw [hl, ← hll] at ht
  have e : ((UInt8.ofNat (d.length + 1)).toNat : Int) = (d.length : Int) + 1 := by rw [ofNat_toNat (by omega)]; simp
  have := OwnB.store (j := 1) (UInt8.ofNat (d.length + 1)) h hb (by omega) hm hs ht
  rw [e, hll, ← hl] at this
  have e2 : ((1 :: UInt8.ofNat d.length :: enc d) ++ [UInt8.ofNat q, x, y, z]).set 1 (UInt8.ofNat (d.length + 1)) = 1 :: UInt8.ofNat (d ++ [(q + 1, p)]).length :: enc (d ++ [(q + 1, p)]) := by
    rw [enc_append, hp]
    simp [enc]
  rw [e2] at this
  exact this
/-- holds a walk at an operation: the arm '(at_builtin; refine Held.of ?_)'; then 'unfold Held' -/
def Held (p : Prop) : Prop := p
theorem Held.of {p : Prop} (h : Held p) : p := h
end Go.Proofs.Ytdonjnngohmknaa.lf
