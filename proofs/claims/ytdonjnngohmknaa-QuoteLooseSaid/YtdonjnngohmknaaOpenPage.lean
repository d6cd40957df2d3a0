/-
  How an argument that is a page (two numbers and bytes) is opened. (PRUNE)
-/
import Derived.Test.YtdonjnngohmknaaMem
import Derived.Lib.SmallJoins
import Derived.Deep.Slices
import Derived.Deep.Fields
namespace Go.Proofs.Ytdonjnngohmknaa.op
set_option linter.unusedVariables false
set_option linter.unusedSimpArgs false
open Go.ChangeShapes Go.WideShapes Go.ChangeAt Go.RowKit Go.Joins Go.Deep bs
section
variable {H : Type} {enc : TypeId × Value → H} {w : World} {r : Reach} {b0 : Nat} {v : Value} {d : DataW H} {p : List MemPlace}
theorem bytes_of {fuel : Nat} {A : Option Addr} {n c : Nat} {x : DataW H × List MemPlace} (hft : DataW.trod enc Try.prog w 0 (fun _ => true) true fuel 31 [.slice A n c] = some x) :
    ∃ bs : List UInt8, Bytes w A n c bs ∧ n ≤ 9223372036854775807 := by
  have hC : Try.prog.cellsOf 5 = 1 := by kernel_rfl
  rcases open_slice Try.underlying31 hft with ⟨hcs, _⟩ | ⟨a, len, cap, m, k, D, Pl, hcs, _, hlc, hmx, hm, _, hi⟩
  · simp only [List.cons.injEq, Value.slice.injEq, and_true] at hcs
    obtain ⟨rfl, rfl, rfl⟩ := hcs
    exact ⟨[], Bytes.nil_, by omega⟩
  · simp only [List.cons.injEq, Value.slice.injEq, and_true] at hcs
    obtain ⟨hA, hn0, hc0⟩ := hcs
    subst hA hn0 hc0
    rw [if_pos rfl] at hm
    rw [hm] at hi
    have key : ∀ i, i < c → ∃ x : UInt8, w.cell? (a.add i) = some (.int .u8 (x.toNat : Int)) := by
      intro i hic
      obtain ⟨cs', hc, ht'⟩ := hi i hic
      rw [hC] at hc
      obtain ⟨_, hcl, hat⟩ := World.cells?_some hc
      obtain ⟨x, e0, _, w0⟩ := DataW.trod_int Try.underlying5 ht'
      have hb := bd_u8 w0
      have h0 := hat 0 (by omega)
      subst e0
      simp only [Nat.mul_one, Nat.add_zero, Go.Deep.add_add] at h0
      exact ⟨UInt8.ofNat x.toNat, by rw [u8_of x hb.1 hb.2]; simpa using h0⟩
    obtain ⟨f, hx⟩ : ∃ f : Nat → UInt8, ∀ i, i < c → w.cell? (a.add i) = some (.int .u8 ((f i).toNat : Int)) := by
      refine ⟨fun i => if h : i < c then Classical.choose (key i h) else 0, fun i hic => ?_⟩
      simp only [dif_pos hic]
      exact Classical.choose_spec (key i hic)
    refine ⟨(List.range n).map f, ⟨by simp, hlc, fun hn => ?_⟩, by unfold maxLen at hmx; omega⟩
    obtain ⟨b, o, spot⟩ := a
    have hspot : spot = none := by simpa [Addr.add] using World.cell?_spot (hx 0 (by omega))
    subst hspot
    have hlt := block_lt_of_cell (hx 0 (by omega))
    rw [block_of_add] at hlt
    refine ⟨b, o, rfl, hlt, fun j hj => ?_⟩
    have g1 := hx j (by have : j < n := by simpa using hj
                        omega)
    rw [Go.WideShapes.add_plain] at g1
    simp only [List.getElem_map, List.getElem_range]
    exact g1
end 
end Go.Proofs.Ytdonjnngohmknaa.op
