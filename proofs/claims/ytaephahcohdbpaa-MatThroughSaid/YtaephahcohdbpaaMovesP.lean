/-
  Layer 24: products with moves and with One.
-/
import Derived.Test.YtaephahcohdbpaaWholes
import Derived.Test.YtaephahcohdbpaaKnown
import Derived.Test.YtaephahcohdbpaaUpAlloc
namespace Go.Proofs.Ytaephahcohdbpaa.mt
set_option linter.unusedVariables false
set_option linter.unusedSimpArgs false
open Go.RowKit bs

theorem mul_move (A B C D E F p q : Int) (W : World) (h1 : mayB A B C D E F = true) (hp : -1073741823 ≤ p ∧ p ≤ 1073741823) (hq : -1073741823 ≤ q ∧ q ≤ 1073741823) (he : -1073741823 ≤ E + p ∧ E + p ≤ 1073741823) (hf : -1073741823 ≤ F + q ∧ F + q ≤ 1073741823) :
    Calls Try.prog 29 #[.agg #[.int .i64 A, .int .i64 B, .int .i64 C, .int .i64 D, .int .i64 E, .int .i64 F], .agg #[.int .i64 65536, .int .i64 0, .int .i64 0, .int .i64 65536, .int .i64 p, .int .i64 q]] W fun ed w' => ed = .returned (.tuple #[.agg #[.int .i64 A, .int .i64 B, .int .i64 C, .int .i64 D, .int .i64 (E + p), .int .i64 (F + q)], .int .i64 0]) ∧ Below W.heap.size W w' := by
  obtain ⟨a, b, c, d, _, _⟩ := mayB_bd h1
  have := mul_may A B C D E F 65536 0 0 65536 p q W h1 (mayB_true (by omega) (by omega) (by omega) (by omega) hp hq)
  have hb : mulB A B C D E F 65536 0 0 65536 p q = true := by
    unfold mulB
    simp only [sum16_l', sum16_r']
    exact mayB_true a b c d he hf
  rw [hb] at this
  simp only [sum16_l', sum16_r', okI_t, okE_t] at this
  exact this
theorem mul_one (A B C D E F : Int) (W : World) (h1 : mayB A B C D E F = true) :
    Calls Try.prog 29 #[.agg #[.int .i64 A, .int .i64 B, .int .i64 C, .int .i64 D, .int .i64 E, .int .i64 F], .agg #[.int .i64 65536, .int .i64 0, .int .i64 0, .int .i64 65536, .int .i64 0, .int .i64 0]] W fun ed w' => ed = .returned (.tuple #[.agg #[.int .i64 A, .int .i64 B, .int .i64 C, .int .i64 D, .int .i64 E, .int .i64 F], .int .i64 0]) ∧ Below W.heap.size W w' := by
  obtain ⟨_, _, _, _, e, f⟩ := mayB_bd h1
  have := mul_move A B C D E F 0 0 W h1 (by omega) (by omega) (by omega) (by omega)
  rwa [Int.add_zero, Int.add_zero] at this
theorem one_mul (A B C D E F : Int) (W : World) (h1 : mayB A B C D E F = true) :
    Calls Try.prog 29 #[.agg #[.int .i64 65536, .int .i64 0, .int .i64 0, .int .i64 65536, .int .i64 0, .int .i64 0], .agg #[.int .i64 A, .int .i64 B, .int .i64 C, .int .i64 D, .int .i64 E, .int .i64 F]] W fun ed w' => ed = .returned (.tuple #[.agg #[.int .i64 A, .int .i64 B, .int .i64 C, .int .i64 D, .int .i64 E, .int .i64 F], .int .i64 0]) ∧ Below W.heap.size W w' := by
  have := mul_may 65536 0 0 65536 0 0 A B C D E F W (by decide) h1
  have hb : mulB 65536 0 0 65536 0 0 A B C D E F = true := by
    unfold mulB
    simp only [sum16_l, sum16_r, sum16_z, Int.zero_add]
    exact h1
  rw [hb] at this
  simp only [sum16_l, sum16_r, sum16_z, Int.zero_add, okI_t, okE_t] at this
  exact this
theorem alloc_mat (dst : Option Tmp) (ty : TypeId) (pos : String) (after : Array Edge) (guard : Option (Nat × Bool)) (ρ : Operand → Value) (w : World) :
    (execOp ρ ⟨dst, .alloc 23, ty, pos, after, guard⟩).run Try.prog w = .ok (.value (.pointer (some ⟨w.heap.size, 0, none⟩))) (w.alloc (.cells #[.int .i64 0, .int .i64 0, .int .i64 0, .int .i64 0, .int .i64 0, .int .i64 0] 23)) := by kernel_rfl
end Go.Proofs.Ytaephahcohdbpaa.mt
