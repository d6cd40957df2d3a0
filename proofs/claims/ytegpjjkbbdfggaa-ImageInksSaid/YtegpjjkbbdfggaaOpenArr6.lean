/-
  How an argument that is an array of six numbers is opened (the text of open/XOpenMat).
-/
import Derived.Test.YtegpjjkbbdfggaaOpenImage
namespace Go.Proofs.Ytegpjjkbbdfggaa.op
set_option linter.unusedVariables false
set_option linter.unusedSimpArgs false
open Go.ChangeShapes Go.WideShapes Go.ChangeAt Go.RowKit Go.Joins Go.Deep bs
section
variable {H : Type} {enc : TypeId × Value → H} {w : World} {r : Reach} {b0 : Nat} {v : Value} {d : DataW H} {p : List MemPlace}
set_option maxRecDepth 100000 in
theorem open_arr6 (hv : Value.okWide Try.prog w r b0 34 v) (h : DataW.Trod enc Try.prog w 0 (fun _ => true) true 34 v d p) :
    ∃ A B C D E F : Int, v = .agg #[.int .i64 A, .int .i64 B, .int .i64 C, .int .i64 D, .int .i64 E, .int .i64 F] ∧ (-9223372036854775808 ≤ A ∧ A ≤ 9223372036854775807) ∧ (-9223372036854775808 ≤ B ∧ B ≤ 9223372036854775807) ∧ (-9223372036854775808 ≤ C ∧ C ≤ 9223372036854775807) ∧ (-9223372036854775808 ≤ D ∧ D ≤ 9223372036854775807) ∧ (-9223372036854775808 ≤ E ∧ E ≤ 9223372036854775807) ∧ (-9223372036854775808 ≤ F ∧ F ≤ 9223372036854775807) := by
  have hs := Try.underlying34
  have hcs : ∃ cs, v = .agg cs ∧ cs.size = Try.prog.cellsOf 34 := by
    simp only [Value.okWide, hs] at hv
    obtain ⟨cs, h1, h2, _⟩ := hv
    exact ⟨cs, h1, h2⟩
  obtain ⟨cs, rfl, hsz⟩ := hcs
  obtain ⟨c0, c1, c2, c3, c4, c5, rfl⟩ := array_6 (hsz.trans (by kernel_rfl))
  obtain ⟨fuel, hf⟩ := h
  obtain ⟨xs, n, _, hx, hl, hlen, hf⟩ := DataW.trod_array hs hf
  match xs, hlen with
  | [y0, y1, y2, y3, y4, y5], _ =>
    have hC : Try.prog.cellsOf 3 = 1 := by kernel_rfl
    have h0 : DataW.trod enc Try.prog w 0 (fun _ => true) true n 3 [c0] = some y0 := by have := hf 0 (by omega); simpa [Value.cells, hC] using this
    obtain ⟨x0, e0, _, w0⟩ := DataW.trod_int Try.underlying3 h0
    simp only [List.cons.injEq, and_true] at e0
    subst e0
    have h1 : DataW.trod enc Try.prog w 0 (fun _ => true) true n 3 [c1] = some y1 := by have := hf 1 (by omega); simpa [Value.cells, hC] using this
    obtain ⟨x1, e1, _, w1⟩ := DataW.trod_int Try.underlying3 h1
    simp only [List.cons.injEq, and_true] at e1
    subst e1
    have h2 : DataW.trod enc Try.prog w 0 (fun _ => true) true n 3 [c2] = some y2 := by have := hf 2 (by omega); simpa [Value.cells, hC] using this
    obtain ⟨x2, e2, _, w2⟩ := DataW.trod_int Try.underlying3 h2
    simp only [List.cons.injEq, and_true] at e2
    subst e2
    have h3 : DataW.trod enc Try.prog w 0 (fun _ => true) true n 3 [c3] = some y3 := by have := hf 3 (by omega); simpa [Value.cells, hC] using this
    obtain ⟨x3, e3, _, w3⟩ := DataW.trod_int Try.underlying3 h3
    simp only [List.cons.injEq, and_true] at e3
    subst e3
    have h4 : DataW.trod enc Try.prog w 0 (fun _ => true) true n 3 [c4] = some y4 := by have := hf 4 (by omega); simpa [Value.cells, hC] using this
    obtain ⟨x4, e4, _, w4⟩ := DataW.trod_int Try.underlying3 h4
    simp only [List.cons.injEq, and_true] at e4
    subst e4
    have h5 : DataW.trod enc Try.prog w 0 (fun _ => true) true n 3 [c5] = some y5 := by have := hf 5 (by omega); simpa [Value.cells, hC] using this
    obtain ⟨x5, e5, _, w5⟩ := DataW.trod_int Try.underlying3 h5
    simp only [List.cons.injEq, and_true] at e5
    subst e5
    exact ⟨x0, x1, x2, x3, x4, x5, rfl, bd_i64 w0, bd_i64 w1, bd_i64 w2, bd_i64 w3, bd_i64 w4, bd_i64 w5⟩
end
end Go.Proofs.Ytegpjjkbbdfggaa.op
