/-
  Layer 38: the walks of ScreenLevels, ScreenTones and ScreenGreys: each returns true and writes nothing that was there.
-/
import Derived.Test.YtodeebaogpepkaaLevel
namespace Go.Proofs.Ytodeebaogpepkaa.sc
set_option linter.unusedVariables false
set_option linter.unusedSimpArgs false
open Go.RowKit bs

/-! ### ScreenTones: plain -/
def one (b : Bool) : Nat := if b then 1 else 0
/-- how many of the first a places of a line are dots; of the first b lines -/
def some_ (g x y : Int) : Nat → Nat
  | 0 => 0
  | a + 1 => some_ g x y a + one (tone g (x + (a : Nat)) y)
def cnt (g x y : Int) : Nat → Nat
  | 0 => 0
  | b + 1 => cnt g x y b + some_ g x (y + (b : Nat)) 8

theorem one_le (b : Bool) : one b ≤ 1 := by unfold one; split <;> omega
theorem some_le (g x y : Int) (k : Nat) : some_ g x y k ≤ k := by
  induction k with
  | zero => exact Nat.le_refl _
  | succ k ih => unfold some_; have := one_le (tone g (x + (k : Nat)) y); omega
theorem cnt_le (g x y : Int) (k : Nat) : cnt g x y k ≤ 8 * k := by
  induction k with
  | zero => exact Nat.le_refl _
  | succ k ih => unfold cnt; have := some_le g x (y + (k : Nat)) 8; omega

theorem level_mod (i j : Int) : level i j = level (i % 8) (j % 8) := by
  have e0 : (i + j) % 2 = (i % 8 + j % 8) % 2 := by omega
  have e1 : (i / 2 + j / 2) % 2 = (i % 8 / 2 + j % 8 / 2) % 2 := by omega
  have e2 : (i / 4 + j / 4) % 2 = (i % 8 / 4 + j % 8 / 4) % 2 := by omega
  have f0 : j % 2 = j % 8 % 2 := by omega
  have f1 : j / 2 % 2 = j % 8 / 2 % 2 := by omega
  have f2 : j / 4 % 2 = j % 8 / 4 % 2 := by omega
  unfold level
  rw [e0, e1, e2, f0, f1, f2]
theorem tone_mod (g i j : Int) : tone g i j = tone g (i % 8) (j % 8) := by unfold tone; rw [level_mod]

def row (f : Int → Nat) (x : Int) : Nat := f (x % 8) + (f ((x + 1) % 8) + (f ((x + 2) % 8) + (f ((x + 3) % 8) + (f ((x + 4) % 8) + (f ((x + 5) % 8) + (f ((x + 6) % 8) + f ((x + 7) % 8)))))))
theorem row_any (f : Int → Nat) (x : Int) : row f x = row f 0 := by
  have h : ∀ k : Int, (x + k) % 8 = (x % 8 + k) % 8 := fun k => by omega
  have h0 := Int.emod_nonneg x (show (8 : Int) ≠ 0 by decide)
  have h1 := Int.emod_lt_of_pos x (show (0 : Int) < 8 by decide)
  unfold row
  simp only [h]
  generalize x % 8 = r at *
  rcases (show r = 0 ∨ r = 1 ∨ r = 2 ∨ r = 3 ∨ r = 4 ∨ r = 5 ∨ r = 6 ∨ r = 7 by omega) with h | h | h | h | h | h | h | h <;> subst h <;> simp <;> omega

theorem some_all (g x y : Int) : some_ g x y 8 = row (fun p => one (tone g p (y % 8))) x := by
  simp only [some_, row]
  simp only [fun k => tone_mod g (x + k) y]
  simp only [Int.cast_ofNat_Int, Int.add_zero]
  omega
theorem cnt_all (g x y : Int) : cnt g x y 8 = row (fun q => row (fun p => one (tone g p q)) x) y := by
  simp only [cnt, some_all]
  unfold row
  simp only [Int.cast_ofNat_Int, Int.add_zero]
  omega
theorem cnt_zero (g x y : Int) : cnt g x y 8 = cnt g 0 0 8 := by
  rw [cnt_all, cnt_all, row_any _ y]
  simp only [row_any _ x]
theorem cnt_zero_is : ∀ g : Fin 256, (cnt (g.val : Int) 0 0 8 : Int) = 64 - ((g.val : Int) + 2) / 4 := by decide +kernel
theorem cnt_is (g x y : Int) (h0 : 0 ≤ g) (h1 : g ≤ 255) : (cnt g x y 8 : Int) = 64 - (g + 2) / 4 := by
  obtain ⟨n, rfl⟩ := Int.eq_ofNat_of_zero_le h0
  rw [cnt_zero]
  exact cnt_zero_is ⟨n, by omega⟩
theorem tone_mono (g h i j : Int) (hgh : g ≤ h) : tone h i j = true → tone g i j = true := by
  unfold tone; simp only [decide_eq_true_eq]; omega
theorem tone_zero (i j : Int) : tone 0 i j = true := by
  have := level_bd i j
  unfold tone; simp only [decide_eq_true_eq]; omega
theorem tone_max (i j : Int) : tone 255 i j = false := by
  have := level_bd i j
  unfold tone; simp only [decide_eq_false_iff_not]; omega

/-- behind m places of line k: u dots so far -/
def InTones (g x y : Int) (k : Nat) (W : World) (n a : Value) (wi : World) : Prop :=
  ∃ m u : Nat, m ≤ 8 ∧ u ≤ 8 * k + m ∧ a = .int .i64 m ∧ n = .int .i64 u ∧ Hid (u = cnt g x y k + some_ g x (y + (k : Nat)) m) ∧ Below W.heap.size W wi
theorem InTones.yes {g x y : Int} {k m u : Nat} {W wi wi' : World} (hm : m < 8) (hu : u ≤ 8 * k + m) (h : Hid (u = cnt g x y k + some_ g x (y + (k : Nat)) m)) (hb : Below W.heap.size W wi)
    (ht : tone g (x + m) (y + k) = true) {n : Nat} (hw : wi.drewN n = wi') : InTones g x y k W (.int .i64 ((u : Int) + 1)) (.int .i64 ((m : Int) + 1)) wi' := by
  subst hw
  refine ⟨m + 1, u + 1, by omega, by omega, by go_num, by go_num, ?_, below_drewN hb _⟩
  have h' := h.out
  show u + 1 = cnt g x y k + (some_ g x (y + (k : Nat)) m + one (tone g (x + m) (y + k)))
  rw [ht]; show u + 1 = _ + (_ + 1); omega
theorem InTones.no {g x y : Int} {k m u : Nat} {W wi wi' : World} (hm : m < 8) (hu : u ≤ 8 * k + m) (h : Hid (u = cnt g x y k + some_ g x (y + (k : Nat)) m)) (hb : Below W.heap.size W wi)
    (ht : tone g (x + m) (y + k) = false) {n : Nat} (hw : wi.drewN n = wi') : InTones g x y k W (.int .i64 (u : Int)) (.int .i64 ((m : Int) + 1)) wi' := by
  subst hw
  refine ⟨m + 1, u, by omega, by omega, by go_num, rfl, ?_, below_drewN hb _⟩
  have h' := h.out
  show u = cnt g x y k + (some_ g x (y + (k : Nat)) m + one (tone g (x + m) (y + k)))
  rw [ht]; show u = _ + (_ + 0); omega

set_option maxRecDepth 100000 in
set_option maxHeartbeats 2000000 in
theorem tones_law (g g2 i j : Int) (hg : (Lit.int .u8 g).wf = true) (hh : (Lit.int .u8 g2).wf = true) (_hi : (Lit.int .i64 i).wf = true) (_hj : (Lit.int .i64 j).wf = true) (w : World) :
    Calls Try.prog 4 #[.int .u8 g, .int .u8 g2, .int .i64 i, .int .i64 j] w fun e w' => e = .returned (.bool true) ∧ Below w.heap.size w w' := by
  have hx : 0 ≤ g ∧ g ≤ 255 := by simpa [Lit.wf, IntKind.min, IntKind.max, IntKind.signed, IntKind.bits] using hg
  have hy : 0 ≤ g2 ∧ g2 ≤ 255 := by simpa [Lit.wf, IntKind.min, IntKind.max, IntKind.signed, IntKind.bits] using hh
  obtain ⟨g0, g1⟩ := hx
  obtain ⟨h0, h1⟩ := hy
  clear hg hh _hi _hj
  have hi0 := Int.emod_nonneg i (show (1000 : Int) ≠ 0 by decide)
  have hi1 := Int.emod_lt_of_pos i (show (0 : Int) < 1000 by decide)
  have hj0 := Int.emod_nonneg j (show (1000 : Int) ≠ 0 by decide)
  have hj1 := Int.emod_lt_of_pos j (show (0 : Int) < 1000 by decide)
  generalize hp : i % 1000 = p at *
  generalize hq : j % 1000 = q at *
  have hone1 : one true = 1 := rfl
  have hone0 : one false = 0 := rfl
  have HC := Lib.hid (cnt_is g (p - 500) (q - 500) g0 g1)
  have z1 := tone_zero (p - 500) (q - 500)
  have z2 := tone_max (p - 500) (q - 500)
  rcases Int.lt_trichotomy g g2 with hgh | hgh | hgh
  case' inr.inl =>
    have hle : g ≤ g2 := by omega
    have hge : g2 ≤ g := by omega
    clear hgh
  all_goals
    go_enter Try.func4, Try.ntmps4
    go_wp2_with (first
      | (go_at_call 11; refine (known_any _).mono ?_; rintro e w1 ⟨rfl, hb1⟩)
      | (go_at_call 12; refine (place_any _ _ _ (by omega) (by omega)).mono ?_; rintro e w' ⟨rfl, rfl⟩))
    go_loopw [13, 14] (fun n b wr => ∃ k v : Nat, k ≤ 8 ∧ v ≤ 8 * k ∧ b = .int .i64 k ∧ n = .int .i64 v ∧ Hid (v = cnt g (p - 500) (q - 500) k) ∧ Below w.heap.size w wr) (fun _ b _ => 8 - (intOf b).toNat)
    case atStart => exact ⟨0, 0, by omega, by omega, rfl, rfl, rfl, hb1⟩
    case round =>
      obtain ⟨k, v, hk, hvk, rfl, rfl, hv, hbw⟩ := hrel
      by_cases hlt : k < 8
      · have dk : decide ((k : Int) < 8) = true := by simp; omega
        go_wp2_with fail
        go_loopw [13, 15] (fun n a wi => InTones g (p - 500) (q - 500) k w n a wi) (fun _ a _ => 8 - (intOf a).toNat)
        case atStart => exact ⟨0, v, by omega, by omega, rfl, rfl, hv, hbw⟩
        case round =>
          obtain ⟨m, u, hm, hum, rfl, rfl, hu, hbi⟩ := hrel
          by_cases hlm : m < 8
          · have hc : (tone g (p - 500 + m) (q - 500 + k) = true ∧ tone g2 (p - 500 + m) (q - 500 + k) = true) ∨ (tone g (p - 500 + m) (q - 500 + k) = true ∧ tone g2 (p - 500 + m) (q - 500 + k) = false ∧ g < g2) ∨
                (tone g (p - 500 + m) (q - 500 + k) = false ∧ tone g2 (p - 500 + m) (q - 500 + k) = true ∧ g2 < g) ∨ (tone g (p - 500 + m) (q - 500 + k) = false ∧ tone g2 (p - 500 + m) (q - 500 + k) = false) := by
              have m1 := tone_mono g g2 (p - 500 + m) (q - 500 + k)
              have m2 := tone_mono g2 g (p - 500 + m) (q - 500 + k)
              cases h1 : tone g (p - 500 + m) (q - 500 + k) <;> cases h2 : tone g2 (p - 500 + m) (q - 500 + k) <;> simp [h1, h2] at m1 m2 ⊢ <;> omega
            rcases hc with ⟨c1, c2⟩ | ⟨c1, c2, c3⟩ | ⟨c1, c2, c3⟩ | ⟨c1, c2⟩
            all_goals try omega
            all_goals
              go_wp2_with (go_at_call 14; refine (tone_any _ _ _ _ (by omega) (by omega)).mono ?_; rintro e w' ⟨rfl, n, rfl⟩)
              go_roundw
              case rel => first | exact InTones.yes hlm hum hu hbi c1 rfl | exact InTones.no hlm hum hu hbi c1 rfl
              case measure => simp [intOf]; omega
          · go_wp2_with fail
            go_roundw
            case rel =>
              obtain rfl : m = 8 := by omega
              exact ⟨k + 1, u, by omega, by omega, by go_num, rfl, hu, hbi⟩
            case measure => simp [intOf]; omega
      · obtain rfl : k = 8 := by omega
        have hve : (v : Int) = 64 - (g + 2) / 4 := by have h1 := HC.out; have h2 := hv.out; omega
        have hvb : ((v : Int) == 64 - (g + 2) / 4) = true := by simp [hve]
        have HV := Lib.hid hve
        clear hve
        go_wp2_with (go_at_call 14; refine (tone_any _ _ _ _ (by omega) (by omega)).mono ?_; rintro e w' ⟨rfl, n, rfl⟩)
        go_ret
        exact ⟨ret_bool (by simp), by first | exact hbw | exact below_drewN hbw _⟩

end Go.Proofs.Ytodeebaogpepkaa.sc
