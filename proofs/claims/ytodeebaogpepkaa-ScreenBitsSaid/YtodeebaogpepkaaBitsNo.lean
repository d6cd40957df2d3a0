/-
  Bits of a page that May refuses: the zero mask and ErrArg, from both.
-/
import Derived.Test.YtodeebaogpepkaaRef36
import Derived.Test.YtodeebaogpepkaaRefMay
import Derived.Test.YtodeebaogpepkaaMask
namespace Go.Proofs.Ytodeebaogpepkaa.sc
set_option linter.unusedVariables false
set_option linter.unusedSimpArgs false
open Go.RowKit bs

theorem bits_no (W H : Int) (A : Option Addr) (n c : Nat) (w : World) (hn : n ≤ 9223372036854775807) (h : ik.mayB W H n = false) :
    Calls Try.prog 16 #[.agg #[.int .i64 W, .int .i64 H, .slice A n c]] w fun e w' => e = .returned (.tuple #[.agg #[.int .i64 0, .int .i64 0, .slice none 0 0], .int .i64 1]) ∧ Below w.heap.size w w' := by
  have K := (Blk.new w 34 #[.int .i64 W, .int .i64 H, .slice A n c]).alloc (.cells #[.int .i64 0, .int .i64 0, .slice none 0 0] 36)
  have K2 := Blk.new (w.alloc (.cells #[.int .i64 W, .int .i64 H, .slice A n c] 34)) 36 #[.int .i64 0, .int .i64 0, .slice none 0 0]
  have s1 : (w.alloc (.cells #[.int .i64 W, .int .i64 H, .slice A n c] 34)).heap.size = w.heap.size + 1 := by simp
  rw [s1] at K2
  go_enter Try.func16, Try.ntmps16
  go_wp2_with fail
  refine (ik.may_any W H A n c _ hn).mono ?_
  rw [h]
  rintro e w1 ⟨rfl, hb1⟩
  have hz : w.heap.size + 2 ≤ w1.heap.size := by have := hb1.size; simpa using this
  have K3 := K2.below hb1 (by simp)
  obtain ⟨c0, c1, c2⟩ : w1.cell? ⟨w.heap.size + 1, 0, none⟩ = some (.int .i64 0) ∧ w1.cell? ⟨w.heap.size + 1, 1, none⟩ = some (.int .i64 0) ∧ w1.cell? ⟨w.heap.size + 1, 2, none⟩ = some (.slice none 0 0) := ⟨by rw [K3.cell]; rfl, by rw [K3.cell]; rfl, by rw [K3.cell]; rfl⟩
  have f0 := K3.frozen 0
  have f1 := K3.frozen 1
  have f2 := K3.frozen 2
  go_wp2_with fail
  have hw : Below w.heap.size w w1 := btrans (balloc (balloc (Below.refl _ _) _) _) hb1
  have B := ((K3.set_ 0 (.int .i64 0)).set_ 1 (.int .i64 0)).set_ 2 (.slice none 0 0)
  exact ret_struct2 rfl rfl B Try.underlying36 rfl (by kernel_rfl) rfl ⟨rfl, bset (bset (bset hw (by simp) _) (by simp) _) (by simp) _⟩
end Go.Proofs.Ytodeebaogpepkaa.sc
