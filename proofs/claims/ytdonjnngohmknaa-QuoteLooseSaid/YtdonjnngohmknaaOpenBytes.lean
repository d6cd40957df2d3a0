/-
  How an argument that is a slice of bytes is opened.
-/
import Derived.Test.YtdonjnngohmknaaOpenPage
namespace Go.Proofs.Ytdonjnngohmknaa.op
set_option linter.unusedVariables false
set_option linter.unusedSimpArgs false
open Go.ChangeShapes Go.WideShapes Go.ChangeAt Go.RowKit Go.Joins Go.Deep bs
section
variable {H : Type} {enc : TypeId × Value → H} {w : World} {r : Reach} {b0 : Nat} {v : Value} {d : DataW H} {p : List MemPlace}
theorem open_bytes (hv : Value.okWide Try.prog w r b0 31 v) (h : DataW.Trod enc Try.prog w 0 (fun _ => true) true 31 v d p) :
    ∃ (A : Option Addr) (n c : Nat) (l : List UInt8), v = .slice A n c ∧ Bytes w A n c l ∧ n ≤ 9223372036854775807 := by
  obtain ⟨A, n, c, rfl⟩ := okWide_slice Try.underlying31 hv
  obtain ⟨fuel, hf⟩ := h
  have hft : DataW.trod enc Try.prog w 0 (fun _ => true) true fuel 31 [.slice A n c] = some (d, p) := by simpa [Value.cells] using hf
  obtain ⟨l, hb, hn⟩ := bytes_of hft
  exact ⟨A, n, c, l, rfl, hb, hn⟩
end
end Go.Proofs.Ytdonjnngohmknaa.op
