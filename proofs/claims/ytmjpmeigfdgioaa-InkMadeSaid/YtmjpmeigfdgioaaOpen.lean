/-
  How the laws' arguments are opened: a struct of plain fields gives its fields, with their bounds.
-/
import Derived.Test.YtmjpmeigfdgioaaBase
import Derived.Lib.SmallJoins
namespace Go.Proofs.Ytmjpmeigfdgioaa.op
set_option linter.unusedVariables false
set_option linter.unusedSimpArgs false
open Go.ChangeShapes Go.WideShapes Go.ChangeAt Go.RowKit Go.Joins bs
section
variable {H : Type} {enc : TypeId × Value → H} {w : World} {base : Nat} {spare : Nat → Bool} {held : Bool} {r : Reach} {b0 : Nat} {v : Value} {d : DataW H} {p : List MemPlace}

theorem open_ink (hv : Value.okWide Try.prog w r b0 27 v) (h : DataW.Trod enc Try.prog w base spare held 27 v d p) :
    ∃ x y z a : Int, v = .agg #[.int .u8 x, .int .u8 y, .int .u8 z, .int .u8 a] ∧ (0 ≤ x ∧ x ≤ 255) ∧ (0 ≤ y ∧ y ≤ 255) ∧ (0 ≤ z ∧ z ≤ 255) ∧ (0 ≤ a ∧ a ≤ 255) := by
  obtain ⟨v0, v1, v2, v3, y0, y1, y2, y3, n, rfl, rfl, rfl, h0, h1, h2, h3⟩ := open_agg4 Try.underlying27 (by kernel_rfl) (by kernel_rfl) hv h
  obtain ⟨x0, e0, _, w0⟩ := DataW.trod_int Try.underlying5 h0
  obtain ⟨x1, e1, _, w1⟩ := DataW.trod_int Try.underlying5 h1
  obtain ⟨x2, e2, _, w2⟩ := DataW.trod_int Try.underlying5 h2
  obtain ⟨x3, e3, _, w3⟩ := DataW.trod_int Try.underlying5 h3
  simp only [List.cons.injEq, and_true] at e0 e1 e2 e3
  subst e0 e1 e2 e3
  exact ⟨x0, x1, x2, x3, rfl, bd_u8 w0, bd_u8 w1, bd_u8 w2, bd_u8 w3⟩
end
end Go.Proofs.Ytmjpmeigfdgioaa.op
