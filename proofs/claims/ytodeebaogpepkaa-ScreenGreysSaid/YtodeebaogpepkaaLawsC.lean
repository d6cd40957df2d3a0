/-
  Layer 38: the walk of ScreenGreys: it returns true and writes nothing that was there.
-/
import Derived.Test.YtodeebaogpepkaaLevel
import Derived.WalkLawsBesides
namespace Go.Proofs.Ytodeebaogpepkaa.sc
set_option linter.unusedVariables false
set_option linter.unusedSimpArgs false
open Go.RowKit bs

theorem grey_exact (r g b a : Int) (w : World) (r0 : 0 ≤ r) (r1 : r ≤ 255) (g0 : 0 ≤ g) (g1 : g ≤ 255) (b0 : 0 ≤ b) (b1 : b ≤ 255) :
    Calls Try.prog 15 #[.agg #[.int .u8 r, .int .u8 g, .int .u8 b, .int .u8 a]] w fun e w' => e = .returned (.int .u8 (grey r g b)) ∧ w.alloc (.cells #[.int .u8 r, .int .u8 g, .int .u8 b, .int .u8 a] 29) = w' := by
  go_enter Try.func15, Try.ntmps15
  go_wp2_with fail
  go_ret
  exact ⟨ret_int rfl, rfl⟩

theorem grey_same (c : Int) : grey c c c = c := by unfold grey; omega
theorem grey_mono (r g b r2 g2 b2 : Int) (h1 : r ≤ r2) (h2 : g ≤ g2) (h3 : b ≤ b2) : grey r g b ≤ grey r2 g2 b2 := by unfold grey; omega
theorem grey_min (r g b m : Int) (h1 : m ≤ r) (h2 : m ≤ g) (h3 : m ≤ b) : m ≤ grey r g b := by unfold grey; omega
theorem grey_max (r g b m : Int) (h1 : r ≤ m) (h2 : g ≤ m) (h3 : b ≤ m) : grey r g b ≤ m := by unfold grey; omega

set_option maxRecDepth 100000 in
set_option maxHeartbeats 4000000 in
theorem greys_law (r g b a c more : Int) (hr : 0 ≤ r ∧ r ≤ 255) (hg : 0 ≤ g ∧ g ≤ 255) (hb : 0 ≤ b ∧ b ≤ 255) (_ha : 0 ≤ a ∧ a ≤ 255) (hc : 0 ≤ c ∧ c ≤ 255) (hm : 0 ≤ more ∧ more ≤ 255) (w : World) :
    Calls Try.prog 5 #[.agg #[.int .u8 r, .int .u8 g, .int .u8 b, .int .u8 a], .int .u8 c, .int .u8 more] w fun e w' => e = .returned (.bool true) ∧ Below w.heap.size w w' := by
  obtain ⟨r0, r1⟩ := hr
  obtain ⟨g0, g1⟩ := hg
  obtain ⟨b0, b1⟩ := hb
  obtain ⟨c0, c1⟩ := hc
  obtain ⟨m0, m1⟩ := hm
  obtain ⟨r2, hr2, p0, p1⟩ : ∃ r2, (if r + more < 255 then r + more else 255) = r2 ∧ r ≤ r2 ∧ r2 ≤ 255 := ⟨_, rfl, by split <;> omega, by split <;> omega⟩
  obtain ⟨g2, hg2, q0, q1⟩ : ∃ g2, (if g + more < 255 then g + more else 255) = g2 ∧ g ≤ g2 ∧ g2 ≤ 255 := ⟨_, rfl, by split <;> omega, by split <;> omega⟩
  obtain ⟨b2, hb2, t0, t1⟩ : ∃ b2, (if b + more < 255 then b + more else 255) = b2 ∧ b ≤ b2 ∧ b2 ≤ 255 := ⟨_, rfl, by split <;> omega, by split <;> omega⟩
  have e0 := grey_same c
  have e1 := grey_mono r g b r2 g b p0 (Int.le_refl _) (Int.le_refl _)
  have e2 := grey_mono r g b r g2 b (Int.le_refl _) q0 (Int.le_refl _)
  have e3 := grey_mono r g b r g b2 (Int.le_refl _) (Int.le_refl _) t0
  obtain ⟨u, hu, u1, u2, u3⟩ : ∃ u, min r (min g b) = u ∧ u ≤ r ∧ u ≤ g ∧ u ≤ b := ⟨_, rfl, by omega, by omega, by omega⟩
  obtain ⟨v, hv, v1, v2, v3⟩ : ∃ v, max r (max g b) = v ∧ r ≤ v ∧ g ≤ v ∧ b ≤ v := ⟨_, rfl, by omega, by omega, by omega⟩
  have hmin : ∀ (W : World) ts t, (Builtin.min_ ts t #[.int .u8 r, .int .u8 g, .int .u8 b]).run Try.prog W = .ok (.int .u8 u) W := fun W ts t => by
    rw [← hu]; simp [Builtin.min_, Builtin.min2]; split <;> split <;> omega
  have hmax : ∀ (W : World) ts t, (Builtin.max_ ts t #[.int .u8 r, .int .u8 g, .int .u8 b]).run Try.prog W = .ok (.int .u8 v) W := fun W ts t => by
    rw [← hv]; simp [Builtin.max_, Builtin.max2]; split <;> split <;> omega
  clear hu hv
  have e4 := grey_min r g b u u1 u2 u3
  have e5 := grey_max r g b v v1 v2 v3
  clear u1 u2 u3 v1 v2 v3
  go_enter Try.func5, Try.ntmps5
  go_wp2_with (first
    | (go_at_call 11; refine (known_any _).mono ?_; rintro e w1 ⟨rfl, hb1⟩))
  have hbw : Below w.heap.size w w1 := (((Below.refl w.heap.size w).alloc (Nat.le_refl _) _).trans (hb1.mono (by simp)))
  have hsz : w.heap.size < w1.heap.size := by have := hb1.size; simp at this; omega
  have k0 : w1.cell? ⟨w.heap.size, 0, none⟩ = some (.int .u8 r) := by rw [(bcell hb1).1 _ _ (by simp)]; go_simp
  have k1 : w1.cell? ⟨w.heap.size, 1, none⟩ = some (.int .u8 g) := by rw [(bcell hb1).1 _ _ (by simp)]; go_simp
  have k2 : w1.cell? ⟨w.heap.size, 2, none⟩ = some (.int .u8 b) := by rw [(bcell hb1).1 _ _ (by simp)]; go_simp
  have k3 : w1.cell? ⟨w.heap.size, 3, none⟩ = some (.int .u8 a) := by rw [(bcell hb1).1 _ _ (by simp)]; go_simp
  have s1 : w.heap.size < w1.heap.size + 1 := by omega
  have s2 : w.heap.size < w1.heap.size + 2 := by omega
  have s3 : w.heap.size < w1.heap.size + 3 := by omega
  have s4 : w.heap.size < w1.heap.size + 4 := by omega
  have s5 : w.heap.size < w1.heap.size + 5 := by omega
  have s6 : w.heap.size < w1.heap.size + 6 := by omega
  have s7 : w.heap.size < w1.heap.size + 7 := by omega
  have s8 : w.heap.size < w1.heap.size + 8 := by omega
  clear hb1
  go_region
  all_goals
    go_wp2_with (go_at_call 15; refine (grey_exact _ _ _ _ _ (by omega) (by omega) (by omega) (by omega) (by omega) (by omega)).mono ?_; rintro e w' ⟨rfl, rfl⟩)
    go_ret
    refine ⟨ret_bool (by simp), ?_⟩
    (repeat' (first | exact hbw | exact Below.refl _ _ | refine balloc ?_ _ | refine Below.drew ?_ | refine below_drewN ?_ _ | refine bset ?_ (by first | omega | (simp; omega)) _))
end Go.Proofs.Ytodeebaogpepkaa.sc
