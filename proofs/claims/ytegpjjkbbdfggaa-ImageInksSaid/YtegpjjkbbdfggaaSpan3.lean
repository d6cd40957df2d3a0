/-
  Layer 30: the contracts of Shift, Norm, Not. (PRUNE)
-/
import Derived.Test.YtegpjjkbbdfggaaSpan2
namespace Go.Proofs.Ytegpjjkbbdfggaa.sp
set_option linter.unusedVariables false
set_option linter.unusedSimpArgs false
open Go.RowKit bs

/-- the places moved by b, those below m alone -/
def moved (l : List (Int × Int)) (b m : Int) (t : Nat) : Bool := decide (0 ≤ (t : Int) - b) && decide ((t : Int) - b < 64) && inRuns l ((t : Int) - b).toNat && decide ((t : Int) < m)
def shift (l : List (Int × Int)) (b x : Int) : List (Int × Int) := if -64 < b ∧ b < 64 then rl (moved l b (max 0 (min x 64))) 64 else []
theorem rl_none : ∀ k, rl (fun _ => false) k = []
  | 0 => rfl
  | k + 1 => by rw [rl_no rfl]; exact rl_none k

/-- in the middle of a shift: what came of the places below k -/
def ShRel (W : World) (l : List (Int × Int)) (b m : Int) (p q k : Nat) (wr : World) : Prop :=
  Blk wr p 149 (rowC (inRuns l)) ∧ Blk wr q 149 (rowC fun t => moved l b m t && decide ((t : Int) - b < k)) ∧ W.heap.size ≤ p ∧ p < q ∧ Below W.heap.size W wr
theorem second_zero (w1 : World) (cs : Array Value) : Blk (((w1.alloc (.cells (Array.replicate 64 (.bool false)) 149)).setRow w1.heap.size cs).alloc (.cells (Array.replicate 64 (.bool false)) 149)) (w1.heap.size + 1) 149 (rowC fun _ => false) := by
  have K2 := Blk.new ((w1.alloc (.cells (Array.replicate 64 (.bool false)) 149)).setRow w1.heap.size cs) 149 (Array.replicate 64 (.bool false))
  have s1 : ((w1.alloc (.cells (Array.replicate 64 (.bool false)) 149)).setRow w1.heap.size cs).heap.size = w1.heap.size + 1 := by simp
  rw [s1] at K2
  rw [← rowC_zero]
  exact K2
theorem ShRel.start {W w1 : World} {l : List (Int × Int)} {b m : Int} (hb : Below W.heap.size W w1) :
    ShRel W l b m w1.heap.size (w1.heap.size + 1) 0 (((w1.alloc (.cells (Array.replicate 64 (.bool false)) 149)).setRow w1.heap.size (rowC (inRuns l))).alloc (.cells (Array.replicate 64 (.bool false)) 149)) := by
  have K1 := (Blk.new w1 149 (Array.replicate 64 (.bool false))).row (rowC (inRuns l))
  have K2 := Blk.new ((w1.alloc (.cells (Array.replicate 64 (.bool false)) 149)).setRow w1.heap.size (rowC (inRuns l))) 149 (Array.replicate 64 (.bool false))
  have s1 : ((w1.alloc (.cells (Array.replicate 64 (.bool false)) 149)).setRow w1.heap.size (rowC (inRuns l))).heap.size = w1.heap.size + 1 := by simp
  rw [s1] at K2
  refine ⟨K1.alloc _, ?_, hb.size, by omega, balloc (brow (balloc hb _) hb.size _) _⟩
  have e : rowC (fun t => moved l b m t && decide ((t : Int) - b < (0 : Nat))) = rowC fun _ => false := rowC_ext fun t _ => by
    unfold moved
    by_cases h : 0 ≤ (t : Int) - b
    · simp; intros; omega
    · simp; intros; omega
  rw [e, ← rowC_zero]
  exact K2
theorem ShRel.skip {W wr : World} {l : List (Int × Int)} {b m : Int} {p q k : Nat} (h : ShRel W l b m p q k wr) (hno : ∀ t : Nat, t < 64 → (t : Int) = k + b → moved l b m t = false) : ShRel W l b m p q (k + 1) wr := by
  obtain ⟨h1, h2, h3⟩ := h
  refine ⟨h1, ?_, h3⟩
  have e : rowC (fun t => moved l b m t && decide ((t : Int) - b < k)) = rowC (fun t => moved l b m t && decide ((t : Int) - b < (k + 1 : Nat))) := rowC_ext fun t ht => by
    by_cases ht2 : (t : Int) = k + b
    · rw [hno t ht ht2]; rfl
    · congr 1
      simp; omega
  rwa [← e]
theorem ShRel.put {W wr : World} {l : List (Int × Int)} {b m : Int} {p q k t : Nat} (h : ShRel W l b m p q k wr) (ht : (t : Int) = k + b) (ht64 : t < 64) (hm : moved l b m t = true) :
    ShRel W l b m p q (k + 1) (wr.setCell ⟨q, t, none⟩ (.bool true)) := by
  obtain ⟨h1, h2, h3, h4, h5⟩ := h
  refine ⟨h1.far (by show p ≠ q; omega) _, ?_, h3, h4, bset h5 (by show W.heap.size ≤ q; omega) _⟩
  have := h2.set_ t (.bool true)
  rw [rowC_set _ t ht64] at this
  have e : rowC (fun j => if j = t then true else moved l b m j && decide ((j : Int) - b < k)) = rowC (fun t => moved l b m t && decide ((t : Int) - b < (k + 1 : Nat))) := rowC_ext fun j hj => by
    by_cases e : j = t
    · subst e; rw [if_pos rfl, hm]; simp; omega
    · rw [if_neg e]
      congr 1
      simp; omega
  rwa [e] at this

set_option maxRecDepth 100000 in
set_option maxHeartbeats 1600000 in
theorem shift_any (A : Option Addr) (n c : Nat) (l : List (Int × Int)) (b x : Int) (w : World) (hr : Runs w A n c l) (hn : n ≤ 9223372036854775807) :
    Calls Try.prog 131 #[.slice A n c, .int .i64 b, .int .i64 x] w fun e w' => ∃ A' c', e = .returned (.slice A' (shift l b x).length c') ∧ Runs w' A' (shift l b x).length c' (shift l b x) ∧ Below w.heap.size w w' := by
  by_cases hb : -64 < b ∧ b < 64
  · have he : shift l b x = rl (moved l b (max 0 (min x 64))) 64 := by unfold shift; rw [if_pos hb]
    rw [he]
    clear he
    obtain ⟨b0, b1⟩ := hb
    obtain ⟨m, hm, m0, m1⟩ : ∃ m, max 0 (min x 64) = m ∧ 0 ≤ m ∧ m ≤ 64 := ⟨_, rfl, by omega, by omega⟩
    rw [hm]
    have d1 : decide (-64 < b) = true := by simp; omega
    have d2 : decide (b < 64) = true := by simp; omega
    go_enter Try.func131, Try.ntmps131
    go_wp2_with fail
    refine (of_any A n c l _ hr hn).mono ?_
    rintro e w1 ⟨rfl, hb1⟩
    have K1 := Blk.new w1 149 (Array.replicate 64 (.bool false))
    go_wp2_with (first
      | (refine wpList_store_row rfl 149 (.tmp 7) (.tmp 13) rfl _ (rowC (inRuns l)) rfl rfl _ _ K1 (by rw [rowC_size]; kernel_rfl) (by rw [rowC_size]; rfl) (rowC_one _) ?_)
      | (refine wpList_load_row rfl 149 (.tmp 7) rfl _ rfl _ _ _ _ ((K1.row (rowC (inRuns l))).alloc (.cells (Array.replicate 64 (.bool false)) 149)) Try.underlying149 rfl (by rw [rowC_size]; kernel_rfl) ?_))
    go_loopw [21] (fun kv wr => ∃ k : Nat, k ≤ 64 ∧ kv = .int .i64 k ∧ ShRel w l b m w1.heap.size (w1.heap.size + 1) k wr) (fun kv _ => 64 - (intOf kv).toNat)
    case atStart => exact ⟨0, by omega, rfl, ShRel.start hb1⟩
    case round =>
      obtain ⟨k, hk, rfl, hR⟩ := hrel
      by_cases hlt : k < 64
      · have hidx := row_index (inRuns l) k hlt
        cases hS : inRuns l k with
        | false =>
          rw [hS] at hidx
          have hnext := hR.skip (fun t _ e => by unfold moved; rw [show ((t : Int) - b).toNat = k by omega, hS]; simp)
          clear hS
          go_wp2_with (go_at_call 119; refine (cut_any _ _).mono ?_; rintro e w' ⟨rfl, rfl⟩)
          go_roundw
          case rel => exact ⟨k + 1, by omega, by go_num, hnext⟩
          case measure => simp [intOf]; omega
        | true =>
          rw [hS] at hidx
          by_cases h0 : (k : Int) + b < 0
          · have hnext := hR.skip (fun t _ e => absurd e (by omega))
            clear hS
            go_wp2_with (go_at_call 119; refine (cut_any _ _).mono ?_; rintro e w' ⟨rfl, rfl⟩)
            go_roundw
            case rel => exact ⟨k + 1, by omega, by go_num, hnext⟩
            case measure => simp [intOf]; omega
          · obtain ⟨t, ht⟩ := Int.eq_ofNat_of_zero_le (show 0 ≤ (k : Int) + b by omega)
            by_cases h1 : (t : Int) < m
            · have hmv : moved l b m t = true := by unfold moved; rw [show ((t : Int) - b).toNat = k by omega, hS]; simp; omega
              have hnext := hR.put ht.symm (by omega) hmv
              have c2 : ∃ v, wr.cell? ⟨w1.heap.size + 1, t, none⟩ = some v := ⟨_, by rw [hR.2.1.cell, rowC_get _ t (by omega)]⟩
              obtain ⟨v, c2⟩ := c2
              have c3 := hR.2.1.frozen t
              have ht64 : t < 64 := by omega
              clear hS hmv
              go_wp2_with (go_at_call 119; refine (cut_any _ _).mono ?_; rintro e w' ⟨rfl, rfl⟩)
              go_roundw
              case rel => exact ⟨k + 1, by omega, by go_num, hnext⟩
              case measure => simp [intOf]; omega
            · have hnext := hR.skip (fun t2 _ e => by unfold moved; rw [show decide ((t2 : Int) < m) = false by simp; omega]; simp)
              have ht99 : t < 128 := by omega
              clear hS
              go_wp2_with (go_at_call 119; refine (cut_any _ _).mono ?_; rintro e w' ⟨rfl, rfl⟩)
              go_roundw
              case rel => exact ⟨k + 1, by omega, by go_num, hnext⟩
              case measure => simp [intOf]; omega
      · obtain rfl : k = 64 := by omega
        obtain ⟨h1, h2, h3, h4, h5⟩ := hR
        have e : rowC (fun t => moved l b m t && decide ((t : Int) - b < (64 : Nat))) = rowC (moved l b m) := rowC_ext fun t _ => by
          unfold moved
          by_cases hh : (t : Int) - b < 64
          · simp [hh]
          · simp [hh]
        rw [e] at h2
        go_wp2_with (refine wpList_load_row rfl 149 (.tmp 8) rfl _ rfl _ _ _ _ h2 Try.underlying149 rfl (by rw [rowC_size]; kernel_rfl) ?_)
        refine (runs_any _ _).mono ?_
        rintro e w4 ⟨A', c', rfl, hr4, hb4⟩
        go_wp2_with fail
        go_ret
        exact ⟨A', c', rfl, hr4, btrans h5 hb4⟩
  · have he : shift l b x = [] := by unfold shift; rw [if_neg hb]
    rw [he]
    clear he
    have hz := rl_none 64
    by_cases h0 : -64 < b
    all_goals
      go_enter Try.func131, Try.ntmps131
      go_wp2_with fail
      refine (of_any A n c l _ hr hn).mono ?_
      rintro e w1 ⟨rfl, hb1⟩
      have K1 := Blk.new w1 149 (Array.replicate 64 (.bool false))
      go_wp2_with (first
        | (refine wpList_store_row rfl 149 (.tmp 7) (.tmp 13) rfl _ (rowC (inRuns l)) rfl rfl _ _ K1 (by rw [rowC_size]; kernel_rfl) (by rw [rowC_size]; rfl) (rowC_one _) ?_)
        | (refine wpList_load_row rfl 149 (.tmp 8) rfl _ rfl _ _ _ _ (second_zero w1 (rowC (inRuns l))) Try.underlying149 rfl (by rw [rowC_size]; kernel_rfl) ?_))
      refine (runs_any _ _).mono ?_
      rintro e w4 ⟨A', c', rfl, hr4, hb4⟩
      rw [hz] at hr4 ⊢
      go_wp2_with fail
      go_ret
      exact ⟨A', c', rfl, hr4, btrans (balloc (brow (balloc hb1 _) hb1.size _) _) hb4⟩

theorem shift_norm (l : List (Int × Int)) (x : Int) : shift l 0 x = rl (inRuns l) (max 0 (min x 64)).toNat := by
  unfold shift
  rw [if_pos (by omega)]
  obtain ⟨m, hm⟩ : ∃ m : Nat, (m : Int) = max 0 (min x 64) := ⟨(max 0 (min x 64)).toNat, by omega⟩
  have hm64 : m ≤ 64 := by omega
  rw [← hm, Int.toNat_natCast]
  have e1 : rl (moved l 0 m) 64 = rl (moved l 0 m) m := by
    obtain ⟨d, hd⟩ : ∃ d, 64 = m + d := ⟨64 - m, by omega⟩
    rw [hd]
    exact rl_stay (fun j hj => by unfold moved; rw [show decide ((j : Int) < (m : Int)) = false by simp; omega]; simp) d
  rw [e1]
  refine rl_ext m fun i hi => ?_
  unfold moved
  have a1 : ((i : Int) - 0).toNat = i := by omega
  rw [a1]
  have a2 : decide (0 ≤ (i : Int) - 0) = true := by simp
  have a3 : decide ((i : Int) - 0 < 64) = true := by simp; omega
  have a4 : decide ((i : Int) < (m : Int)) = true := by simp; omega
  rw [a2, a3, a4]
  simp

def norm (l : List (Int × Int)) (x : Int) : List (Int × Int) := rl (inRuns l) (max 0 (min x 64)).toNat
theorem norm_any (A : Option Addr) (n c : Nat) (l : List (Int × Int)) (x : Int) (w : World) (hr : Runs w A n c l) (hn : n ≤ 9223372036854775807) :
    Calls Try.prog 126 #[.slice A n c, .int .i64 x] w fun e w' => ∃ A' c', e = .returned (.slice A' (norm l x).length c') ∧ Runs w' A' (norm l x).length c' (norm l x) ∧ Below w.heap.size w w' := by
  have he : shift l 0 x = norm l x := shift_norm l x
  rw [← he]
  clear he
  go_enter Try.func126, Try.ntmps126
  go_wp2_with fail
  refine (shift_any A n c l 0 x w hr hn).mono ?_
  rintro e w1 ⟨A', c', rfl, hr1, hb1⟩
  go_wp2_with fail
  go_ret
  exact ⟨A', c', rfl, hr1, hb1⟩

theorem Runs.lit (w : World) (x y : Int) (t : TypeId) (c : Nat) (hc : 1 ≤ c) : Runs (w.alloc (.cells #[.int .i64 x, .int .i64 y] t)) (some ⟨w.heap.size, 0, none⟩) 1 c [(x, y)] := by
  have K := Blk.new w t #[.int .i64 x, .int .i64 y]
  refine ⟨rfl, hc, fun _ => ⟨w.heap.size, 0, rfl, K.lt, fun j hj => ?_⟩⟩
  obtain rfl : j = 0 := by simpa using hj
  exact ⟨by rw [K.cell]; rfl, by rw [K.cell]; rfl⟩

def notL (l : List (Int × Int)) (x : Int) : List (Int × Int) := rl (fun i => !inRuns l i) (max 0 (min x 64)).toNat
theorem less_not (l : List (Int × Int)) (x : Int) : two (fun x y => x && !y) [(0, max 0 (min x 64))] l = notL l x := by
  obtain ⟨m, hm⟩ : ∃ m : Nat, (m : Int) = max 0 (min x 64) := ⟨(max 0 (min x 64)).toNat, by omega⟩
  have hm64 : m ≤ 64 := by omega
  unfold two notL
  rw [← hm, Int.toNat_natCast]
  simp only [inRuns_one]
  have e1 : rl (fun i => decide ((0 : Int) ≤ (i : Int)) && decide ((i : Int) < (m : Int)) && !inRuns l i) 64 = rl (fun i => decide ((0 : Int) ≤ (i : Int)) && decide ((i : Int) < (m : Int)) && !inRuns l i) m := by
    obtain ⟨d, hd⟩ : ∃ d, 64 = m + d := ⟨64 - m, by omega⟩
    rw [hd]
    exact rl_stay (fun j hj => by rw [show decide ((j : Int) < (m : Int)) = false by simp; omega]; simp) d
  rw [e1]
  refine rl_ext m fun i hi => ?_
  rw [show decide ((i : Int) < (m : Int)) = true by simp; omega]
  simp

theorem not_any (A : Option Addr) (n c : Nat) (l : List (Int × Int)) (x : Int) (w : World) (hr : Runs w A n c l) (hn : n ≤ 9223372036854775807) :
    Calls Try.prog 96 #[.slice A n c, .int .i64 x] w fun e w' => ∃ A' c', e = .returned (.slice A' (notL l x).length c') ∧ Runs w' A' (notL l x).length c' (notL l x) ∧ Below w.heap.size w w' := by
  have he := less_not l x
  rw [← he]
  clear he
  generalize hm : max 0 (min x 64) = m
  go_enter Try.func96, Try.ntmps96
  go_wp2_with (go_at_call 119; refine (cut_any _ _).mono ?_; rintro e w' ⟨rfl, rfl⟩)
  refine (less_any _ A 1 1 n c [(0, m)] l _ (Runs.lit w 0 m 109 1 (Nat.le_refl _)) (hr.below (balloc (Below.refl _ _) _)) (by omega) hn).mono ?_
  rintro e w1 ⟨A', c', rfl, hr1, hb1⟩
  go_wp2_with fail
  go_ret
  exact ⟨A', c', rfl, hr1, btrans (balloc (Below.refl _ _) _) hb1⟩
end Go.Proofs.Ytegpjjkbbdfggaa.sp
