/-
  Layer 36: known() returns true; the law InkBlends. (PRUNE)
-/
import Derived.Test.YtfmkdccpgkbnoaaNew
namespace Go.Proofs.Ytfmkdccpgkbnoaa.ik
set_option linter.unusedVariables false
set_option linter.unusedSimpArgs false
open Go.RowKit bs

theorem new_any (V G : Int) (w : World) (v0 : 1 ≤ V) (v1 : V ≤ 64) (g0 : 1 ≤ G) (g1 : G ≤ 64) :
    Calls Try.prog 26 #[.int .i64 V, .int .i64 G] w fun e w' => ∃ A n c, e = .returned (.tuple #[.agg #[.int .i64 V, .int .i64 G, .slice A n c], .int .i64 0]) ∧
      Bytes w' A n c (List.replicate (3 * (V.toNat * G.toNat)) 255) ∧ Below w.heap.size w w' := by
  obtain ⟨v, rfl⟩ := Int.eq_ofNat_of_zero_le (show 0 ≤ V by omega)
  obtain ⟨g, rfl⟩ := Int.eq_ofNat_of_zero_le (show 0 ≤ G by omega)
  exact new_yes v g w (by omega) (by omega)

end Go.Proofs.Ytfmkdccpgkbnoaa.ik
