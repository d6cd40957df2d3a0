/-
  The reference's Put, its small parts: IsSide, May, MayRegion, fair, Blend. (PRUNE)
-/
import Derived.Test.YtmjpmeigfdgioaaPut
import Derived.Test.YtmjpmeigfdgioaaUpTail
import Derived.BigQuiet
namespace Go.Proofs.Ytmjpmeigfdgioaa.rg
set_option linter.unusedVariables false
set_option linter.unusedSimpArgs false
open Go.RowKit bs sp ik

theorem isside_yes (n : Nat) (h : 1 ≤ n ∧ n ≤ 64) (w : World) : Calls Try.prog 68 #[.int .i64 (n : Int)] w fun e w' => e = .returned (.bool true) ∧ w = w' := by
  go_enter Try.func68, Try.ntmps68
  go_wp2_with fail
  go_ret
  exact ⟨ret_bool (by simp; omega), rfl⟩

set_option maxRecDepth 100000 in
set_option maxHeartbeats 1600000 in
theorem may36_yes (W H n c : Nat) (A : Option Addr) (w : World) (hW : 1 ≤ W ∧ W ≤ 64) (hH : 1 ≤ H ∧ H ≤ 64) (hn : n = 3 * (W * H)) :
    Calls Try.prog 58 #[.agg #[.int .i64 (W : Int), .int .i64 (H : Int), .slice A n c]] w fun e w' => e = .returned (.bool true) ∧ Below w.heap.size w w' := by
  have hs := page_size hW hH
  have HS1 := Lib.hid (isside_yes W hW)
  have HS2 := Lib.hid (isside_yes H hH)
  obtain ⟨M, hM⟩ : ∃ M, W * H = M := ⟨_, rfl⟩
  have hM1 : (W : Int) * (H : Int) = (M : Int) := by rw [← hM]; push_cast; rfl
  have hM2 : 3 * (W : Int) * (H : Int) = 3 * (M : Int) := by rw [Int.mul_assoc, hM1]
  rw [hM] at hn hs
  subst hn
  obtain ⟨w0, w1⟩ := hW
  obtain ⟨h0, h1⟩ := hH
  clear hM
  go_enter Try.func58, Try.ntmps58
  go_wp2_with fail
  refine (HS1.out _).mono ?_
  rintro e_ w_ ⟨rfl, rfl⟩
  go_wp2_with fail
  refine (HS2.out _).mono ?_
  rintro e_ w_ ⟨rfl, rfl⟩
  go_wp2_with fail
  go_ret
  exact ⟨ret_bool (by simp), by (repeat' (first | exact Below.refl _ _ | exact Below.refl _ _ | refine balloc ?_ _ | refine Below.drew ?_ | refine below_drewN ?_ _ | refine bset ?_ (by first | omega | (simp <;> omega)) _))⟩

theorem blend36_any (u o a : Int) (w : World) (hu : 0 ≤ u ∧ u ≤ 255) (ho : 0 ≤ o ∧ o ≤ 255) (ha : 0 ≤ a ∧ a ≤ 255) :
    Calls Try.prog 41 #[.int .i64 u, .int .i64 o, .int .i64 a] w fun e w' => e = .returned (.int .u8 (blend u o a)) ∧ w = w' := by
  obtain ⟨p, q, hp, hq, p0, q0, p1, q1, pq, hb⟩ := blend_names u o a hu ho ha
  rw [hb]
  clear hb
  obtain ⟨u0, u1⟩ := hu
  obtain ⟨o0, o1⟩ := ho
  obtain ⟨a0, a1⟩ := ha
  go_enter Try.func41, Try.ntmps41
  go_wp2_with fail
  go_ret
  exact ⟨ret_int rfl, rfl⟩
end Go.Proofs.Ytmjpmeigfdgioaa.rg
