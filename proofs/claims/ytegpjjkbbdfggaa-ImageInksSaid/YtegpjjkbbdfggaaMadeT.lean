/-
  Layer 37: what the laws of pages begin with: an image and a matrix by numbers.
-/
import Derived.Test.YtegpjjkbbdfggaaMade2
import Derived.Test.YtegpjjkbbdfggaaDet0
import Derived.Test.YtegpjjkbbdfggaaOver
import Derived.Test.YtegpjjkbbdfggaaPaint
import Derived.Test.YtegpjjkbbdfggaaKnown
import Derived.Test.YtegpjjkbbdfggaaUpAlloc
namespace Go.Proofs.Ytegpjjkbbdfggaa.im
set_option linter.unusedVariables false
set_option linter.unusedSimpArgs false
open Go.RowKit bs mt op

theorem alloc_img2 (dst : Option Tmp) (ty : TypeId) (pos : String) (after : Array Edge) (guard : Option (Nat × Bool)) (ρ : Operand → Value) (w : World) :
    (execOp ρ ⟨dst, .alloc 23, ty, pos, after, guard⟩).run Try.prog w = .ok (.value (.pointer (some ⟨w.heap.size, 0, none⟩))) (w.alloc (.cells #[.int .i64 0, .int .i64 0, .int .i64 0, .string ⟨#[]⟩] 23)) := by kernel_rfl
theorem alloc_mat2 (dst : Option Tmp) (ty : TypeId) (pos : String) (after : Array Edge) (guard : Option (Nat × Bool)) (ρ : Operand → Value) (w : World) :
    (execOp ρ ⟨dst, .alloc 25, ty, pos, after, guard⟩).run Try.prog w = .ok (.value (.pointer (some ⟨w.heap.size, 0, none⟩))) (w.alloc (.cells #[.int .i64 0, .int .i64 0, .int .i64 0, .int .i64 0, .int .i64 0, .int .i64 0] 25)) := by kernel_rfl
theorem made_b (A : Option Addr) (n c : Nat) (ns : Nat → Int) (bits : Int) (hn : n ≤ 9223372036854775807) : ∃ (W H B : Int) (s : ByteArray), B = 2 ^ (bits % 4).toNat ∧ mayI W H B s.size = true ∧ W ≤ 9 ∧ H ≤ 9 ∧
    ∀ w, Ints w A n c ns → Calls Try.prog 23 #[.slice A n c, .int .i64 bits] w fun ed w' => ed = .returned (.agg #[.int .i64 W, .int .i64 H, .int .i64 B, .string s]) ∧ Below w.heap.size w w' := by
  have HP := fun W => place_any bits 4 W (by decide) (by decide)
  have he : 0 ≤ bits % 4 ∧ bits % 4 < 4 := by omega
  generalize bits % 4 = e at *
  obtain ⟨B, hB, hBs⟩ : ∃ B : Int, (2 : Int) ^ e.toNat = B ∧ (B = 1 ∨ B = 2 ∨ B = 4 ∨ B = 8) := by
    rcases (show e = 0 ∨ e = 1 ∨ e = 2 ∨ e = 3 by omega) with rfl | rfl | rfl | rfl
    · exact ⟨1, by decide, by decide⟩
    · exact ⟨2, by decide, by decide⟩
    · exact ⟨4, by decide, by decide⟩
    · exact ⟨8, by decide, by decide⟩
  have hb : bitsB B = true := by rcases hBs with rfl | rfl | rfl | rfl <;> rfl
  have size_mk : ∀ L, ((⟨(madeL ns n L).toArray⟩ : ByteArray).size : Int) = (L : Int) := fun L => by
    show (((madeL ns n L).toArray).size : Int) = _
    simp [madeL_len]
  by_cases hn1 : 1 < n
  · have h0 : 0 ≤ ns 0 % 9 ∧ ns 0 % 9 < 9 := by omega
    have h1 : 0 ≤ ns 1 % 9 ∧ ns 1 % 9 < 9 := by omega
    obtain ⟨Wn, hWn⟩ := Int.eq_ofNat_of_zero_le (show 0 ≤ 1 + ns 0 % 9 by omega)
    obtain ⟨Hn, hHn⟩ := Int.eq_ofNat_of_zero_le (show 0 ≤ 1 + ns 1 % 9 by omega)
    have hr := rowI_bd (W := (Wn : Int)) (B := B) ⟨by omega, by omega⟩ (by omega)
    have hr9 : rowI (Wn : Int) B ≤ 9 := by
      have h1 := Int.mul_le_mul_of_nonneg_right (show (Wn : Int) ≤ 9 by omega) (show 0 ≤ B by omega)
      unfold rowI
      omega
    obtain ⟨R, hR⟩ := Int.eq_ofNat_of_zero_le (show 0 ≤ rowI (Wn : Int) B by omega)
    have hR1 : 1 ≤ R ∧ R ≤ 9 := by omega
    have hHR : Hn * R ≤ 81 := Nat.mul_le_mul (show Hn ≤ 9 by omega) hR1.2
    refine ⟨Wn, Hn, B, _, hB.symm, ?_, by omega, by omega, fun w hw => made_some A n c ns bits B e Wn Hn R (Hn * R) w hw hn (by omega) (by omega) he.1 he.2 hB (Lib.hid HP) hn1 hWn hHn (by omega) (by omega) (by omega) (by omega) hR (by push_cast; rfl) hHR⟩
    unfold mayI
    rw [hb, size_mk, show sidesB (Wn : Int) (Hn : Int) = true by unfold sidesB; simp; omega, hR]
    push_cast
    simp
  · refine ⟨1, 1, B, _, hB.symm, ?_, by decide, by decide, fun w hw => made_none A n c ns bits B e w hw hn (by omega) (by omega) he.1 he.2 hB (Lib.hid HP) hn1 (by omega)⟩
    unfold mayI
    rw [hb, size_mk, show rowI 1 B = 1 by unfold rowI; omega]
    rfl

theorem may_size {W H B : Int} {s : ByteArray} (hmay : mayI W H B s.size = true) : (s.size : Int) ≤ 9223372036854775807 := by
  obtain ⟨hB, hW, hH, hsz⟩ := mayI_bd hmay
  have h1 := rowI_bd hW (show 1 ≤ B ∧ B ≤ 8 by omega)
  have h2 := area_bd hH h1.2.2
  omega
theorem turn_b (a0 a1 a2 a3 a4 a5 : Int) : ∃ a b c d e f : Int, mayB a b c d e f = true ∧ ∀ W, Calls Try.prog 24 #[.agg #[.int .i64 a0, .int .i64 a1, .int .i64 a2, .int .i64 a3, .int .i64 a4, .int .i64 a5]] W fun ed w' => ed = .returned (.agg #[.int .i64 a, .int .i64 b, .int .i64 c, .int .i64 d, .int .i64 e, .int .i64 f]) ∧ Below W.heap.size W w' := by
  obtain ⟨i0, i1, i2, i3, i4, i5, q0, q1, q2, q3, q4, q5, hTu⟩ := turn_any a0 a1 a2 a3 a4 a5 default
  refine ⟨_, _, _, _, _, _, ?_, hTu⟩
  unfold mayB
  rw [fixB_true (by omega), fixB_true (by omega), fixB_true (by omega), fixB_true (by omega), fixB_true (by omega), fixB_true (by omega)]
  rfl
theorem new_pg37 (W H N : Nat) (w : World) (hW : 1 ≤ W ∧ W ≤ 64) (hH : 1 ≤ H ∧ H ≤ 64) (hN : N = 3 * (W * H)) :
    Calls Try.prog 35 #[.int .i64 (W : Int), .int .i64 (H : Int)] w fun e w' => ∃ b o c, e = .returned (.tuple #[.agg #[.int .i64 (W : Int), .int .i64 (H : Int), .slice (some ⟨b, o, none⟩) N c], .int .i64 0]) ∧ rg.Pg w' (some ⟨b, o, none⟩) N c (fun _ => 255) ∧ Below w.heap.size w w' := by
  have hs := rg.page_size hW hH
  refine (ik.new_yes W H w hW hH).mono ?_
  rintro e w' ⟨A, n, c, he, ⟨h1, h2, h3⟩, hb⟩
  have hn : n = N := by rw [← h1, hN]; simp
  subst hn
  obtain ⟨b, o, rfl, hlt, hc⟩ := h3 (by omega)
  refine ⟨b, o, c, he, ⟨h2, b, o, rfl, hlt, fun j hj => ⟨?_, show (0 : Int) ≤ 255 by decide, show (255 : Int) ≤ 255 by decide⟩⟩, hb⟩
  rw [hc j (by rw [h1]; exact hj)]
  simp
end Go.Proofs.Ytegpjjkbbdfggaa.im
