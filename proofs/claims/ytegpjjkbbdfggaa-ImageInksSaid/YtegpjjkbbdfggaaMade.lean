/-
  Layer 37: Made: an image by numbers.
-/
import Derived.Test.YtegpjjkbbdfggaaTurnI
import Derived.Test.YtegpjjkbbdfggaaOpenIntsM
namespace Go.Proofs.Ytegpjjkbbdfggaa.im
set_option linter.unusedVariables false
set_option linter.unusedSimpArgs false
open Go.RowKit bs mt op

/-- a byte of a made image -/
def madeY (ns : Nat → Int) (n k : Nat) : Int := if 2 < n then ((ns (2 + k % (n - 2)) % 1048576) / 2 ^ (k / (n - 2) % 12)) % 256 else 0
def madeL (ns : Nat → Int) (n L : Nat) : List UInt8 := (List.range L).map fun k => UInt8.ofNat (madeY ns n k).toNat
theorem madeY_bd (ns : Nat → Int) (n k : Nat) : 0 ≤ madeY ns n k ∧ madeY ns n k ≤ 255 := by unfold madeY; split <;> omega
theorem madeL_len (ns : Nat → Int) (n L : Nat) : (madeL ns n L).length = L := by simp [madeL]
theorem madeL_get (ns : Nat → Int) (n L j : Nat) (h : j < (madeL ns n L).length) : ((madeL ns n L)[j].toNat : Int) = madeY ns n j := by
  have := madeY_bd ns n j
  simp only [madeL, List.getElem_map, List.getElem_range]
  rw [UInt8.toNat_ofNat']
  omega
/-- behind k rounds: block g holds the bytes, the first new block the result's place -/
def MadeRel (W0 : World) (g : Nat) (ns : Nat → Int) (n L k : Nat) (wr : World) : Prop :=
  ∃ cs : Array Value, Blk wr g 5 cs ∧ cs.size = L ∧ (∀ j, j < L → ∃ v, cs[j]? = some (.int .u8 v)) ∧ (∀ j, j < k ∨ ¬ 2 < n → j < L → cs[j]? = some (.int .u8 (madeY ns n j))) ∧ Blk wr W0.heap.size 23 #[.int .i64 0, .int .i64 0, .int .i64 0, .string ⟨#[]⟩] ∧ W0.heap.size < g ∧ Below W0.heap.size W0 wr
theorem MadeRel.start {W0 wr : World} (ns : Nat → Int) (n L : Nat) (h : Blk wr W0.heap.size 23 #[.int .i64 0, .int .i64 0, .int .i64 0, .string ⟨#[]⟩]) (hb : Below W0.heap.size W0 wr) (hs : W0.heap.size < wr.heap.size) : MadeRel W0 wr.heap.size ns n L 0 (wr.alloc (.cells (madeCells #[.int .u8 0] L) 5)) := by
  have hg : ∀ j, j < L → (madeCells #[Value.int .u8 0] L)[j]? = some (.int .u8 0) := fun j hj => by simp [madeCells, hj, Nat.mod_one]
  refine ⟨_, Blk.new _ _ _, size_madeCells _ _, fun j hj => ⟨0, hg j hj⟩, fun j hj hl => ?_, h.alloc _, hs, balloc hb _⟩
  rcases hj with hj | hj
  · omega
  · rw [hg j hl]; unfold madeY; rw [if_neg hj]
theorem MadeRel.step {W0 wr : World} {g : Nat} {ns : Nat → Int} {n L k : Nat} (h : MadeRel W0 g ns n L k wr) (hk : k < L) : MadeRel W0 g ns n L (k + 1) (wr.setCell ⟨g, k, none⟩ (.int .u8 (madeY ns n k))) := by
  obtain ⟨cs, h1, h2, h3, h4, h5, h6, h7⟩ := h
  refine ⟨_, h1.set_ k _, by simp [h2], fun j hj => ?_, fun j hj hl => ?_, h5.far (by show W0.heap.size ≠ g; omega) _, h6, bset h7 (by show W0.heap.size ≤ g; omega) _⟩
  · rw [Array.getElem?_setIfInBounds]
    by_cases hjk : k = j
    · subst hjk; exact ⟨madeY ns n k, by simp [h2, hk]⟩
    · simp [hjk, h3 j hj]
  · rw [Array.getElem?_setIfInBounds]
    by_cases hjk : k = j
    · subst hjk; simp [h2, hk]
    · simp only [hjk, if_false]
      exact h4 j (hj.imp (fun h => by omega) id) hl
theorem MadeRel.below {W0 wr w' : World} {g : Nat} {ns : Nat → Int} {n L k : Nat} (h : MadeRel W0 g ns n L k wr) (hb : Below wr.heap.size wr w') : MadeRel W0 g ns n L k w' := by
  obtain ⟨cs, h1, h2, h3, h4, h5, h6, h7⟩ := h
  exact ⟨cs, h1.below hb h1.lt, h2, h3, h4, h5.below hb h5.lt, h6, btrans h7 hb⟩
/-- the string of the bytes -/
theorem MadeRel.str {W0 wr : World} {g : Nat} {ns : Nat → Int} {n L k : Nat} (h : MadeRel W0 g ns n L k wr) (hk : k = L ∨ ¬ 2 < n) (cap : Nat) : (convert 44 9 (.slice (some ⟨g, 0, none⟩) L cap)).run Try.prog wr = .ok (.string ⟨(madeL ns n L).toArray⟩) wr := by
  obtain ⟨cs, h1, h2, h3, h4, _⟩ := h
  have := run_convert_bytes_back (P := Try.prog) wr 44 9 5 ⟨g, 0, none⟩ cap (madeL ns n L) Try.underlying44 Try.underlying5 Try.underlying9 (fun j hj => by
    have hj' : j < L := by rw [madeL_len] at hj; exact hj
    have hadd : (⟨g, 0, none⟩ : Addr).add j = ⟨g, j, none⟩ := by unfold Addr.add; split <;> simp_all
    rw [hadd, h1.cell, h4 j (hk.imp (fun h => by omega) id) hj', madeL_get])
  rw [madeL_len] at this
  exact this

end Go.Proofs.Ytegpjjkbbdfggaa.im
