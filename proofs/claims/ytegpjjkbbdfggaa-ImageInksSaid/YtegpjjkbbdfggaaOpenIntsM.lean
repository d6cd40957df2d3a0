/-
  How an argument that is a slice of numbers is opened.
-/
import Derived.Test.YtegpjjkbbdfggaaMem
import Derived.Lib.SmallJoins
import Derived.Deep.Slices
import Derived.Deep.Fields
namespace Go.Proofs.Ytegpjjkbbdfggaa.op
set_option linter.unusedVariables false
set_option linter.unusedSimpArgs false
open Go.ChangeShapes Go.WideShapes Go.ChangeAt Go.RowKit Go.Joins Go.Deep bs
/-- the slice at A, of length n and capacity c, holds the numbers ns -/
def Ints (w : World) (A : Option Addr) (n c : Nat) (ns : Nat → Int) : Prop :=
  n ≤ c ∧ (0 < n → ∃ b o, A = some ⟨b, o, none⟩ ∧ b < w.heap.size ∧ ∀ j, j < n → w.cell? ⟨b, o + j, none⟩ = some (.int .i64 (ns j)))
theorem Ints.below {w w' : World} {A : Option Addr} {n c : Nat} {ns : Nat → Int} (h : Ints w A n c ns) (hb : Below w.heap.size w w') : Ints w' A n c ns := by
  obtain ⟨h2, h3⟩ := h
  refine ⟨h2, fun hn => ?_⟩
  obtain ⟨b, o, e, hlt, hc⟩ := h3 hn
  exact ⟨b, o, e, Nat.lt_of_lt_of_le hlt hb.size, fun j hj => (hb.cell (p := ⟨b, o + j, none⟩) hlt).trans (hc j hj)⟩

section
variable {H : Type} {enc : TypeId × Value → H} {w : World} {r : Reach} {b0 : Nat} {v : Value} {d : DataW H} {p : List MemPlace}
set_option maxRecDepth 100000 in
theorem open_ints (hv : Value.okWide Try.prog w r b0 31 v) (h : DataW.Trod enc Try.prog w 0 (fun _ => true) true 31 v d p) :
    ∃ (A : Option Addr) (n c : Nat) (ns : Nat → Int), v = .slice A n c ∧ Ints w A n c ns ∧ n ≤ 9223372036854775807 := by
  obtain ⟨A, n, c, rfl⟩ := okWide_slice Try.underlying31 hv
  obtain ⟨fuel, hf⟩ := h
  have hft : DataW.trod enc Try.prog w 0 (fun _ => true) true fuel 31 [.slice A n c] = some (d, p) := by simpa [Value.cells] using hf
  have hC : Try.prog.cellsOf 3 = 1 := by kernel_rfl
  rcases open_slice Try.underlying31 hft with ⟨hcs, _⟩ | ⟨a, len, cap, m, k, D, Pl, hcs, _, hlc, hmx, hm, _, hi⟩
  · simp only [List.cons.injEq, Value.slice.injEq, and_true] at hcs
    obtain ⟨rfl, rfl, rfl⟩ := hcs
    exact ⟨none, 0, 0, fun _ => 0, rfl, ⟨by omega, fun h => absurd h (by omega)⟩, by omega⟩
  · simp only [List.cons.injEq, Value.slice.injEq, and_true] at hcs
    obtain ⟨hA, hn0, hc0⟩ := hcs
    subst hA hn0 hc0
    rw [if_pos rfl] at hm
    rw [hm] at hi
    have key : ∀ i, i < c → ∃ x : Int, w.cell? (a.add i) = some (.int .i64 x) := by
      intro i hic
      obtain ⟨cs', hc, ht'⟩ := hi i hic
      rw [hC] at hc
      obtain ⟨_, hcl, hat⟩ := World.cells?_some hc
      obtain ⟨x, e0, _, _⟩ := DataW.trod_int Try.underlying3 ht'
      have h0 := hat 0 (by omega)
      subst e0
      simp only [Nat.mul_one, Nat.add_zero, Go.Deep.add_add] at h0
      exact ⟨x, by simpa using h0⟩
    obtain ⟨f, hx⟩ : ∃ f : Nat → Int, ∀ i, i < c → w.cell? (a.add i) = some (.int .i64 (f i)) := by
      refine ⟨fun i => if h : i < c then Classical.choose (key i h) else 0, fun i hic => ?_⟩
      simp only [dif_pos hic]
      exact Classical.choose_spec (key i hic)
    refine ⟨some a, n, c, f, rfl, ⟨hlc, fun hn => ?_⟩, by unfold maxLen at hmx; omega⟩
    obtain ⟨b, o, spot⟩ := a
    have hspot : spot = none := by simpa [Addr.add] using World.cell?_spot (hx 0 (by omega))
    subst hspot
    have hlt := block_lt_of_cell (hx 0 (by omega))
    rw [block_of_add] at hlt
    refine ⟨b, o, rfl, hlt, fun j hj => ?_⟩
    have g1 := hx j (by omega)
    rw [Go.WideShapes.add_plain] at g1
    exact g1
end
end Go.Proofs.Ytegpjjkbbdfggaa.op
