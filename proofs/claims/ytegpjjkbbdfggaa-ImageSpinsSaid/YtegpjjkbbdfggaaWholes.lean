/-
  Layer 24 in the seat of the images: whole numbers (the text of mat/XWholes).
-/
import Derived.Test.YtegpjjkbbdfggaaInvert
namespace Go.Proofs.Ytegpjjkbbdfggaa.mt
set_option linter.unusedVariables false
set_option linter.unusedSimpArgs false
open Go.RowKit bs
set_option maxRecDepth 100000 in
theorem sum16_whole (x y z t : Int) : sum16 (x * 65536) (y * 65536) (z * 65536) (t * 65536) = (x * y + z * t) * 65536 := by
  unfold sum16
  rw [mul16, mul16, show x * y * 4294967296 + z * t * 4294967296 = (x * y + z * t) * 65536 * 65536 by omega]
  exact even16_exact _
set_option maxRecDepth 100000 in
theorem okI_t (x : Int) : okI true x = x := rfl
set_option maxRecDepth 100000 in
theorem okE_t : okE true = 0 := rfl
set_option maxRecDepth 100000 in
theorem mul_whole (a b c d e f a2 b2 c2 d2 e2 f2 r1 r2 r3 r4 r5 r6 : Int) (W : World) (ha : -16000 ≤ a ∧ a ≤ 16000) (hb : -16000 ≤ b ∧ b ≤ 16000) (hc : -16000 ≤ c ∧ c ≤ 16000) (hd : -16000 ≤ d ∧ d ≤ 16000) (he : -16000 ≤ e ∧ e ≤ 16000) (hf : -16000 ≤ f ∧ f ≤ 16000) (ha2 : -16000 ≤ a2 ∧ a2 ≤ 16000) (hb2 : -16000 ≤ b2 ∧ b2 ≤ 16000) (hc2 : -16000 ≤ c2 ∧ c2 ≤ 16000) (hd2 : -16000 ≤ d2 ∧ d2 ≤ 16000) (he2 : -16000 ≤ e2 ∧ e2 ≤ 16000) (hf2 : -16000 ≤ f2 ∧ f2 ≤ 16000) (hr1 : -16000 ≤ r1 ∧ r1 ≤ 16000) (hr2 : -16000 ≤ r2 ∧ r2 ≤ 16000) (hr3 : -16000 ≤ r3 ∧ r3 ≤ 16000) (hr4 : -16000 ≤ r4 ∧ r4 ≤ 16000) (hr5 : -16000 ≤ r5 ∧ r5 ≤ 16000) (hr6 : -16000 ≤ r6 ∧ r6 ≤ 16000) (q1 : a * a2 + b * c2 = r1) (q2 : a * b2 + b * d2 = r2) (q3 : c * a2 + d * c2 = r3) (q4 : c * b2 + d * d2 = r4) (q5 : e * a2 + f * c2 + e2 = r5) (q6 : e * b2 + f * d2 + f2 = r6) :
    Calls Try.prog 44 #[.agg #[.int .i64 (a * 65536), .int .i64 (b * 65536), .int .i64 (c * 65536), .int .i64 (d * 65536), .int .i64 (e * 65536), .int .i64 (f * 65536)], .agg #[.int .i64 (a2 * 65536), .int .i64 (b2 * 65536), .int .i64 (c2 * 65536), .int .i64 (d2 * 65536), .int .i64 (e2 * 65536), .int .i64 (f2 * 65536)]] W fun ed w' => ed = .returned (.tuple #[.agg #[.int .i64 (r1 * 65536), .int .i64 (r2 * 65536), .int .i64 (r3 * 65536), .int .i64 (r4 * 65536), .int .i64 (r5 * 65536), .int .i64 (r6 * 65536)], .int .i64 0]) ∧ Below W.heap.size W w' := by
  have := mul_may (a * 65536) (b * 65536) (c * 65536) (d * 65536) (e * 65536) (f * 65536) (a2 * 65536) (b2 * 65536) (c2 * 65536) (d2 * 65536) (e2 * 65536) (f2 * 65536) W (mayB_true (by omega) (by omega) (by omega) (by omega) (by omega) (by omega)) (mayB_true (by omega) (by omega) (by omega) (by omega) (by omega) (by omega))
  have s5 : (e * a2 + f * c2) * 65536 + e2 * 65536 = r5 * 65536 := by omega
  have s6 : (e * b2 + f * d2) * 65536 + f2 * 65536 = r6 * 65536 := by omega
  have hb : mulB (a * 65536) (b * 65536) (c * 65536) (d * 65536) (e * 65536) (f * 65536) (a2 * 65536) (b2 * 65536) (c2 * 65536) (d2 * 65536) (e2 * 65536) (f2 * 65536) = true := by
    unfold mulB
    simp only [sum16_whole]
    rw [q1, q2, q3, q4, s5, s6]
    exact mayB_true (by omega) (by omega) (by omega) (by omega) (by omega) (by omega)
  rw [hb] at this
  simp only [sum16_whole, okI_t, okE_t] at this
  rw [q1, q2, q3, q4, s5, s6] at this
  exact this
set_option maxRecDepth 100000 in
theorem inv_plus (a b c d e f b2 c2 u v : Int) (W : World) (ha : -16000 ≤ a ∧ a ≤ 16000) (hb : -16000 ≤ b ∧ b ≤ 16000) (hc : -16000 ≤ c ∧ c ≤ 16000) (hd : -16000 ≤ d ∧ d ≤ 16000) (he : -16000 ≤ e ∧ e ≤ 16000) (hf : -16000 ≤ f ∧ f ≤ 16000) (hu : -16000 ≤ u ∧ u ≤ 16000) (hv : -16000 ≤ v ∧ v ≤ 16000) (hd1 : a * d - b * c = 1) (q1 : -b = b2) (q2 : -c = c2) (qu : c * f - d * e = u) (qv : b * e - a * f = v) :
    Calls Try.prog 43 #[.agg #[.int .i64 (a * 65536), .int .i64 (b * 65536), .int .i64 (c * 65536), .int .i64 (d * 65536), .int .i64 (e * 65536), .int .i64 (f * 65536)]] W fun ed w' => ed = .returned (.tuple #[.agg #[.int .i64 (d * 65536), .int .i64 (b2 * 65536), .int .i64 (c2 * 65536), .int .i64 (a * 65536), .int .i64 (u * 65536), .int .i64 (v * 65536)], .int .i64 0]) ∧ Below W.heap.size W w' := by
  have hdt : a * 65536 * (d * 65536) - b * 65536 * (c * 65536) = 4294967296 := by rw [det_whole a b c d 0 0, hd1]; rfl
  refine Invert_yes (a * 65536) (b * 65536) (c * 65536) (d * 65536) (e * 65536) (f * 65536) (d * 65536) (b2 * 65536) (c2 * 65536) (a * 65536) (u * 65536) (v * 65536) W (mayB_true (by omega) (by omega) (by omega) (by omega) (by omega) (by omega)) (by rw [hdt]; omega) ?_ (fixB_true (by omega)) ?_ (fixB_true (by omega)) ?_ (fixB_true (by omega)) ?_ (fixB_true (by omega)) ?_ (fixB_true (by omega)) ?_ (fixB_true (by omega))
  · rw [hdt]; exact mulDiv_exact (by omega) (by omega) (by omega) (by omega)
  · rw [hdt]; exact mulDiv_exact (by omega) (by omega) (by omega) (by omega)
  · rw [hdt]; exact mulDiv_exact (by omega) (by omega) (by omega) (by omega)
  · rw [hdt]; exact mulDiv_exact (by omega) (by omega) (by omega) (by omega)
  · rw [hdt, mul16, mul16]; exact mulDiv_exact (by omega) (by omega) (by omega) (by omega)
  · rw [hdt, mul16, mul16]; exact mulDiv_exact (by omega) (by omega) (by omega) (by omega)
set_option maxRecDepth 100000 in
theorem inv_minus (a b c d e f d2 a2 u v : Int) (W : World) (ha : -16000 ≤ a ∧ a ≤ 16000) (hb : -16000 ≤ b ∧ b ≤ 16000) (hc : -16000 ≤ c ∧ c ≤ 16000) (hd : -16000 ≤ d ∧ d ≤ 16000) (he : -16000 ≤ e ∧ e ≤ 16000) (hf : -16000 ≤ f ∧ f ≤ 16000) (hu : -16000 ≤ u ∧ u ≤ 16000) (hv : -16000 ≤ v ∧ v ≤ 16000) (hd1 : a * d - b * c = -1) (q1 : -d = d2) (q2 : -a = a2) (qu : d * e - c * f = u) (qv : a * f - b * e = v) :
    Calls Try.prog 43 #[.agg #[.int .i64 (a * 65536), .int .i64 (b * 65536), .int .i64 (c * 65536), .int .i64 (d * 65536), .int .i64 (e * 65536), .int .i64 (f * 65536)]] W fun ed w' => ed = .returned (.tuple #[.agg #[.int .i64 (d2 * 65536), .int .i64 (b * 65536), .int .i64 (c * 65536), .int .i64 (a2 * 65536), .int .i64 (u * 65536), .int .i64 (v * 65536)], .int .i64 0]) ∧ Below W.heap.size W w' := by
  have hdt : a * 65536 * (d * 65536) - b * 65536 * (c * 65536) = (-4294967296) := by rw [det_whole a b c d 0 0, hd1]; rfl
  refine Invert_yes (a * 65536) (b * 65536) (c * 65536) (d * 65536) (e * 65536) (f * 65536) (d2 * 65536) (b * 65536) (c * 65536) (a2 * 65536) (u * 65536) (v * 65536) W (mayB_true (by omega) (by omega) (by omega) (by omega) (by omega) (by omega)) (by rw [hdt]; omega) ?_ (fixB_true (by omega)) ?_ (fixB_true (by omega)) ?_ (fixB_true (by omega)) ?_ (fixB_true (by omega)) ?_ (fixB_true (by omega)) ?_ (fixB_true (by omega))
  · rw [hdt]; exact mulDiv_exact (by omega) (by omega) (by omega) (by omega)
  · rw [hdt]; exact mulDiv_exact (by omega) (by omega) (by omega) (by omega)
  · rw [hdt]; exact mulDiv_exact (by omega) (by omega) (by omega) (by omega)
  · rw [hdt]; exact mulDiv_exact (by omega) (by omega) (by omega) (by omega)
  · rw [hdt, mul16, mul16]; exact mulDiv_exact (by omega) (by omega) (by omega) (by omega)
  · rw [hdt, mul16, mul16]; exact mulDiv_exact (by omega) (by omega) (by omega) (by omega)
end Go.Proofs.Ytegpjjkbbdfggaa.mt
