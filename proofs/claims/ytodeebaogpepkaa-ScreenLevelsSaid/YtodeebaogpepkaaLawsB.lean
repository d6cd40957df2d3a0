/-
  Layer 38: the walk of ScreenLevels: it returns true and writes nothing that was there.
-/
import Derived.Test.YtodeebaogpepkaaLawsA
namespace Go.Proofs.Ytodeebaogpepkaa.sc
set_option linter.unusedVariables false
set_option linter.unusedSimpArgs false
open Go.RowKit bs

/-! ### ScreenLevels -/
theorem level_inj0 : ∀ i j i2 j2 : Fin 8, level (i.val : Int) (j.val : Int) = level (i2.val : Int) (j2.val : Int) → i = i2 ∧ j = j2 := by decide +kernel
theorem level_inj (x y : Int) (a b a2 b2 : Nat) (ha : a < 8) (hb : b < 8) (ha2 : a2 < 8) (hb2 : b2 < 8) (h : level (x + a) (y + b) = level (x + a2) (y + b2)) : a = a2 ∧ b = b2 := by
  rw [level_mod (x + a), level_mod (x + a2)] at h
  have e : ∀ z : Int, ∃ f : Fin 8, (f.val : Int) = z % 8 := fun z => ⟨⟨(z % 8).toNat, by omega⟩, by simp; omega⟩
  obtain ⟨f1, e1⟩ := e (x + a)
  obtain ⟨f2, e2⟩ := e (y + b)
  obtain ⟨f3, e3⟩ := e (x + a2)
  obtain ⟨f4, e4⟩ := e (y + b2)
  rw [← e1, ← e2, ← e3, ← e4] at h
  obtain ⟨r1, r2⟩ := level_inj0 _ _ _ _ h
  subst r1 r2
  omega
theorem level_up (i j : Int) : level (i + 8) j = level i j := by
  rw [level_mod, level_mod i]
  have : (i + 8) % 8 = i % 8 := by omega
  rw [this]
theorem level_down (i j : Int) : level i (j - 8) = level i j := by
  rw [level_mod, level_mod i j]
  have : (j - 8) % 8 = j % 8 := by omega
  rw [this]

/-- which levels were seen: S; block B holds them -/
def Seen (x y : Int) (k m : Nat) (B : Nat) (W wi : World) : Prop :=
  ∃ (S : Nat → Bool) (cs : Array Value), Blk wi B 24 cs ∧ cs.size = 64 ∧ (∀ v, v < 64 → cs[v]? = some (.bool (S v))) ∧
    (∀ v, S v = true → ∃ a b : Nat, a < 8 ∧ b < 8 ∧ (b < k ∨ b = k ∧ a < m) ∧ level (x + a) (y + b) = v) ∧ W.heap.size ≤ B ∧ Below W.heap.size W wi

theorem seen_start {x y : Int} {W w1 : World} (hb : Below W.heap.size W w1) : Seen x y 0 0 w1.heap.size W (w1.alloc (.cells (Array.replicate 64 (.bool false)) 24)) :=
  ⟨fun _ => false, _, Blk.new w1 _ _, by simp, fun v hv => by simp [hv], fun v hv => by simp at hv, hb.size, hb.alloc hb.size _⟩
theorem seen_line {x y : Int} {W wi : World} {k m B : Nat} (hm : m = 8) (h : Seen x y k m B W wi) : Seen x y (k + 1) 0 B W wi := by
  obtain ⟨S, cs, hblk, hsz, hc, hs, hB, hb⟩ := h
  refine ⟨S, cs, hblk, hsz, hc, fun v hv => ?_, hB, hb⟩
  obtain ⟨a, b, ha, hb', hab, hl⟩ := hs v hv
  exact ⟨a, b, ha, hb', by omega, hl⟩
theorem seen_step {x y : Int} {W wi : World} {k m B : Nat} (hk : k < 8) (hm : m < 8) (h : Seen x y k m B W wi) :
    ∃ l : Nat, l ≤ 63 ∧ level (x + m) (y + k) = l ∧ level (x + m + 8) (y + k) = l ∧ level (x + m) (y + k - 8) = l ∧ wi.cell? ⟨B, l, none⟩ = some (.bool false) ∧ wi.frozen? ⟨B, l, none⟩ = false ∧
      ∀ n, Seen x y k (m + 1) B W ((wi.drewN n).setCell ⟨B, l, none⟩ (.bool true)) := by
  obtain ⟨S, cs, hblk, hsz, hc, hs, hB, hb⟩ := h
  have hbd := level_bd (x + m) (y + k)
  obtain ⟨l, hl⟩ := Int.eq_ofNat_of_zero_le hbd.1
  have hl63 : l ≤ 63 := by omega
  refine ⟨l, hl63, hl, by rw [level_up, hl], by rw [level_down, hl], ?_, hblk.frozen l, fun n => ?_⟩
  · rw [hblk.cell, hc l (by omega)]
    cases hS : S l with
    | false => rfl
    | true =>
      obtain ⟨a, b, ha, hb', hab, hl'⟩ := hs l hS
      have := level_inj x y a b m k ha hb' hm hk (by rw [hl', hl])
      omega
  · refine ⟨fun v => if v = l then true else S v, _, (hblk.drewN n).set_ l _, by simp [hsz], fun v hv => ?_, fun v hv => ?_, hB, (below_drewN hb n).setCell hB _⟩
    · rw [Array.getElem?_setIfInBounds]
      by_cases hvl : l = v
      · subst hvl; simp [hsz, hv]
      · have hvl' : ¬ v = l := fun e => hvl e.symm
        simp [hvl, hvl', hc v hv]
    · by_cases hvl : v = l
      · subst hvl
        exact ⟨m, k, hm, hk, by omega, hl⟩
      · simp only [hvl, if_false] at hv
        obtain ⟨a, b, ha, hb', hab, hl'⟩ := hs v hv
        exact ⟨a, b, ha, hb', by omega, hl'⟩

set_option maxRecDepth 100000 in
set_option maxHeartbeats 2000000 in
theorem levels_law (i j : Int) (_hi : (Lit.int .i64 i).wf = true) (_hj : (Lit.int .i64 j).wf = true) (w : World) :
    Calls Try.prog 3 #[.int .i64 i, .int .i64 j] w fun e w' => e = .returned (.bool true) ∧ Below w.heap.size w w' := by
  clear _hi _hj
  have hi0 := Int.emod_nonneg i (show (1000 : Int) ≠ 0 by decide)
  have hi1 := Int.emod_lt_of_pos i (show (0 : Int) < 1000 by decide)
  have hj0 := Int.emod_nonneg j (show (1000 : Int) ≠ 0 by decide)
  have hj1 := Int.emod_lt_of_pos j (show (0 : Int) < 1000 by decide)
  generalize hp : i % 1000 = p at *
  generalize hq : j % 1000 = q at *
  go_enter Try.func3, Try.ntmps3
  go_wp2_with (first
    | (go_at_call 11; refine (known_any _).mono ?_; rintro e w1 ⟨rfl, hb1⟩)
    | (go_at_call 12; refine (place_any _ _ _ (by omega) (by omega)).mono ?_; rintro e w' ⟨rfl, rfl⟩))
  go_loopw [8] (fun b wr => ∃ k : Nat, k ≤ 8 ∧ b = .int .i64 k ∧ Seen (p - 500) (q - 500) k 0 w1.heap.size w wr) (fun b _ => 8 - (intOf b).toNat)
  case atStart => exact ⟨0, by omega, rfl, seen_start hb1⟩
  case round =>
    obtain ⟨k, hk, rfl, hs⟩ := hrel
    by_cases hlt : k < 8
    · have dk : decide ((k : Int) < 8) = true := by simp; omega
      go_wp2_with fail
      go_loopw [9] (fun a wi => ∃ m : Nat, m ≤ 8 ∧ a = .int .i64 m ∧ Seen (p - 500) (q - 500) k m w1.heap.size w wi) (fun a _ => 8 - (intOf a).toNat)
      case atStart => exact ⟨0, by omega, rfl, hs⟩
      case round =>
        obtain ⟨m, hm, rfl, hi⟩ := hrel
        by_cases hlm : m < 8
        · obtain ⟨l, hl0, hl1, hl2, hl3, hcell, hfr, hnext⟩ := seen_step hlt hlm hi
          go_wp2_with (go_at_call 13; refine (level_any _ _ _).mono ?_; rintro e w' ⟨rfl, n, rfl⟩)
          go_roundw
          case rel => exact ⟨m + 1, by omega, by go_num, hnext _⟩
          case measure => simp [intOf]; omega
        · go_wp2_with fail
          go_roundw
          case rel => exact ⟨k + 1, by omega, by go_num, seen_line (show m = 8 by omega) hi⟩
          case measure => simp [intOf]; omega
    · go_wp2_with fail
      go_ret
      obtain ⟨_, _, _, _, _, _, _, hb⟩ := hs
      exact ⟨rfl, hb⟩
end Go.Proofs.Ytodeebaogpepkaa.sc
