/-
  Layer 36: known() returns true; the law InkBlends. (PRUNE)
-/
import Derived.Test.YtegpjjkbbdfggaaNew
namespace Go.Proofs.Ytegpjjkbbdfggaa.ik
set_option linter.unusedVariables false
set_option linter.unusedSimpArgs false
open Go.RowKit bs

theorem new_any (V G : Int) (w : World) (v0 : 1 ≤ V) (v1 : V ≤ 64) (g0 : 1 ≤ G) (g1 : G ≤ 64) :
    Calls Try.prog 35 #[.int .i64 V, .int .i64 G] w fun e w' => ∃ A n c, e = .returned (.tuple #[.agg #[.int .i64 V, .int .i64 G, .slice A n c], .int .i64 0]) ∧
      Bytes w' A n c (List.replicate (3 * (V.toNat * G.toNat)) 255) ∧ Below w.heap.size w w' := by
  obtain ⟨v, rfl⟩ := Int.eq_ofNat_of_zero_le (show 0 ≤ V by omega)
  obtain ⟨g, rfl⟩ := Int.eq_ofNat_of_zero_le (show 0 ≤ G by omega)
  exact new_yes v g w (by omega) (by omega)

theorem at_any (W H : Int) (A : Option Addr) (n c : Nat) (bs : List UInt8) (i j : Int) (w : World) (hr : Bytes w A n c bs) (hm : mayB W H n = true) (i0 : 0 ≤ i) (hi : i < W) (j0 : 0 ≤ j) (hj : j < H) :
    Calls Try.prog 36 #[.agg #[.int .i64 W, .int .i64 H, .slice A n c], .int .i64 i, .int .i64 j] w fun e w' => ∃ r g b : UInt8,
      e = .returned (.tuple #[.agg #[.int .u8 (r.toNat : Int), .int .u8 (g.toNat : Int), .int .u8 (b.toNat : Int), .int .u8 255], .bool true]) ∧
      r = bs.getD (3 * (j.toNat * W.toNat + i.toNat)) 0 ∧ g = bs.getD (3 * (j.toNat * W.toNat + i.toNat) + 1) 0 ∧ b = bs.getD (3 * (j.toNat * W.toNat + i.toNat) + 2) 0 ∧ Below w.heap.size w w' := by
  obtain ⟨i, rfl⟩ := Int.eq_ofNat_of_zero_le i0
  obtain ⟨j, rfl⟩ := Int.eq_ofNat_of_zero_le j0
  exact (at_yes W H A n c bs i j w hr hm hi hj).mono fun e w' ⟨he, hb⟩ => ⟨_, _, _, he, rfl, rfl, rfl, hb⟩

end Go.Proofs.Ytegpjjkbbdfggaa.ik
