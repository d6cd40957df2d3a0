/-
  Layer 30: the contract of (places).runs, and of the smaller functions. (PRUNE)
-/
import Derived.Test.YtegpjjkbbdfggaaRl
import Derived.Test.YtegpjjkbbdfggaaOf
namespace Go.Proofs.Ytegpjjkbbdfggaa.sp
set_option linter.unusedVariables false
set_option linter.unusedSimpArgs false
open Go.RowKit bs

/-- runs as cells -/
def flat (l : List (Int × Int)) : List Value := l.flatMap fun r => [.int .i64 r.1, .int .i64 r.2]
theorem flat_len (l : List (Int × Int)) : (flat l).length = l.length * 2 := by
  induction l with
  | nil => rfl
  | cons a r ih => simp [flat] at ih ⊢; omega
theorem flat_append (l m : List (Int × Int)) : flat (l ++ m) = flat l ++ flat m := by simp [flat]
theorem flat_get (l : List (Int × Int)) (j : Nat) (h : j < l.length) : (flat l)[j * 2]? = some (.int .i64 l[j].1) ∧ (flat l)[j * 2 + 1]? = some (.int .i64 l[j].2) := by
  induction l generalizing j with
  | nil => simp at h
  | cons a r ih =>
    have e : flat (a :: r) = [.int .i64 a.1, .int .i64 a.2] ++ flat r := by simp [flat]
    rw [e]
    cases j with
    | zero => simp
    | succ j =>
      have h' : j < r.length := by simpa using h
      obtain ⟨i1, i2⟩ := ih j h'
      constructor
      · rw [List.getElem?_append_right (by simp; omega)]
        have : (j + 1) * 2 - [Value.int .i64 a.1, Value.int .i64 a.2].length = j * 2 := by simp; omega
        rw [this, i1]; rfl
      · rw [List.getElem?_append_right (by simp; omega)]
        have : (j + 1) * 2 + 1 - [Value.int .i64 a.1, Value.int .i64 a.2].length = j * 2 + 1 := by simp; omega
        rw [this, i2]; rfl
/-- a slice of the call's own that holds runs -/
def OwnRuns (w : World) (base : Nat) (v : Value) (l : List (Int × Int)) : Prop := w.ownsRow base 109 2 v l.length (flat l)
theorem OwnRuns.runs {w : World} {base : Nat} {v : Value} {l : List (Int × Int)} (h : OwnRuns w base v l) : ∃ A c, v = .slice A l.length c ∧ Runs w A l.length c l := by
  have hh := h
  rcases h.2 with ⟨rfl, h0⟩ | ⟨g, cap, cur, rfl, hb, hg, hn, hm, hs, ht⟩
  · have : l = [] := List.eq_nil_of_length_eq_zero h0
    subst this
    exact ⟨none, 0, rfl, Runs.nil_⟩
  · refine ⟨_, _, rfl, rfl, hn, fun _ => ⟨g, 0, rfl, (Array.getElem?_eq_some_iff.1 hg).1, fun j hj => ?_⟩⟩
    obtain ⟨e1, e2⟩ := flat_get l j hj
    simp only [Nat.zero_add]
    have hlt : j * 2 + 1 < l.length * 2 := by omega
    rw [World.ownsRow.cellAt (g := g) (cap := cap) hh (j * 2) (by omega), World.ownsRow.cellAt (g := g) (cap := cap) hh (j * 2 + 1) (by omega)]
    exact ⟨e1, e2⟩

set_option maxRecDepth 100000 in
theorem cut_any (v : Int) (w : World) : Calls Try.prog 119 #[.int .i64 v] w fun e w' => e = .returned (.int .i64 (max 0 (min v 64))) ∧ w = w' := by
  have e1 : (if 64 < v then 64 else v) = min v 64 := by omega
  have e2 : (if 0 < min v 64 then min v 64 else 0) = max 0 (min v 64) := by omega
  go_enter Try.func119, Try.ntmps119
  go_wp2_with fail
  go_ret
  exact ⟨ret_int (by first | rfl | omega), rfl⟩

def RunsRel (W : World) (S : Nat → Bool) (i : Nat) (v : Value) (wr : World) : Prop :=
  OwnRuns wr (W.heap.size + 1) v (rl S (min i 64)) ∧ Blk wr W.heap.size 149 (rowC S) ∧ Below W.heap.size W wr ∧ (i ≤ 64 → (st S i).2 = none)
theorem RunsRel.own {W wr : World} {S : Nat → Bool} {i : Nat} {v : Value} (h : RunsRel W S i v wr) (o : Obj) : (wr.alloc o).ownsRow (W.heap.size + 1) 109 2 v (rl S (min i 64)).length (flat (rl S (min i 64))) := World.ownsRow.alloc h.1 o
theorem RunsRel.small {W wr : World} {S : Nat → Bool} {i : Nat} {v : Value} (h : RunsRel W S i v wr) : (rl S (min i 64)).length ≤ 64 ∧ W.heap.size + 1 ≤ wr.heap.size :=
  ⟨by have := (rl_len S (min i 64)).1; omega, h.2.1.lt⟩
theorem two_new (w : World) (x y : Value) (t : TypeId) : ∀ (j : Nat) (u : Value), [x, y][j]? = some u → (w.alloc (.cells #[x, y] t)).cell? ((⟨w.heap.size, 0, none⟩ : Addr).add j) = some u := by
  intro j u hu
  have hadd : (⟨w.heap.size, 0, none⟩ : Addr).add j = ⟨w.heap.size, j, none⟩ := by unfold Addr.add; split <;> simp_all
  rw [hadd, (Blk.new w t #[x, y]).cell]
  simpa using hu
theorem RunsRel.skip {W wr : World} {S : Nat → Bool} {i : Nat} {v : Value} (h : RunsRel W S i v wr) (hi : i < 64) (hS : S i = false) : RunsRel W S (i + 1) v wr := by
  obtain ⟨h1, h2, h3, h4⟩ := h
  refine ⟨?_, h2, h3, fun _ => by rw [st_no hS]⟩
  rw [show min (i + 1) 64 = i + 1 by omega, rl_no hS]
  rwa [show min i 64 = i by omega] at h1
theorem RunsRel.put {W wr w1 : World} {S : Nat → Bool} {i m : Nat} {v v1 : Value} (h : RunsRel W S i v wr) (him : i < m) (hm : m ≤ 64) (hall : ∀ j, i ≤ j → j < m → S j = true) (hend : m < 64 → S m = false)
    (hown : w1.ownsRow (W.heap.size + 1) 109 2 v1 ((rl S (min i 64)).length + 1) (flat (rl S (min i 64)) ++ [.int .i64 i, .int .i64 m]))
    {o : Obj} (hg : (wr.alloc o).grownBy w1 v.ownBlock) : RunsRel W S (m + 1) v1 w1 := by
  obtain ⟨h1, h2, h3, h4⟩ := h
  have e : rl S (min (m + 1) 64) = rl S (min i 64) ++ [((i : Int), (m : Int))] := by
    rw [show min i 64 = i by omega, ← rl_grow (h4 (by omega)) him hall]
    by_cases hm2 : m < 64
    · rw [show min (m + 1) 64 = m + 1 by omega, rl_no (hend hm2)]
    · rw [show min (m + 1) 64 = m by omega]
  have hne : ∀ k, v.ownBlock = some k → W.heap.size + 1 ≤ k := fun k hk => (h1.lt k hk).1
  refine ⟨?_, ?_, ?_, fun hle => by rw [st_no (hend (by omega))]⟩
  · unfold OwnRuns
    rw [e]
    simpa [flat] using hown
  · exact ((h2.alloc o).grown hg (fun e => by have := hne _ e.symm; omega))
  · exact (h3.alloc h3.size o).grown hg (by have := h3.size; simp; omega) (fun k hk => by have := hne k hk; omega)

set_option maxRecDepth 100000 in
set_option maxHeartbeats 800000 in
theorem runs_any (S : Nat → Bool) (w : World) :
    Calls Try.prog 130 #[.agg (rowC S)] w fun e w' => ∃ A c, e = .returned (.slice A (rl S 64).length c) ∧ Runs w' A (rl S 64).length c (rl S 64) ∧ Below w.heap.size w w' := by
  obtain ⟨i0, hi, hz0, hz1, hz2⟩ := info_parts (show (Try.prog.info? 109).map (fun i => (i.zero, i.size, i.bytes)) = some (some (.agg #[.int .i64 0, .int .i64 0]), 2, 16) by kernel_rfl)
  go_enter Try.func130, Try.ntmps130
  go_wp2_with fail
  go_loopw [3, 4] (fun ov iv wr => ∃ i : Nat, i ≤ 65 ∧ iv = .int .i64 i ∧ RunsRel w S i ov wr) (fun _ iv _ => 65 - (intOf iv).toNat)
  case atStart => exact ⟨0, by omega, rfl, ⟨by simp [rl_zero, flat], .inl ⟨rfl, rfl⟩⟩, Blk.new w _ _, balloc (Below.refl _ _) _, fun _ => rfl⟩
  case round =>
    obtain ⟨i, hi65, rfl, hR⟩ := hrel
    by_cases hlt : i < 64
    · have hcell : wr.cell? ⟨w.heap.size, i, none⟩ = some (.bool (S i)) := by rw [hR.2.1.cell, rowC_get S i hlt]
      obtain ⟨hsm1, hsm2⟩ := hR.small
      cases hS : S i with
      | false =>
        rw [hS] at hcell
        have hnext := hR.skip hlt hS
        go_wp2_with fail
        go_roundw
        case rel => exact ⟨i + 1, by omega, by go_num, hnext⟩
        case measure => simp [intOf]; omega
      | true =>
        rw [hS] at hcell
        have HS := Lib.hid hS
        clear hS
        go_wp2_with fail
        go_loop [4] (fun mv => ∃ m : Nat, i ≤ m ∧ m ≤ 64 ∧ mv = .int .i64 m ∧ Hid (∀ j, i ≤ j → j < m → S j = true)) (fun mv => 64 - (intOf mv).toNat)
        case atStart => exact ⟨i, by omega, by omega, rfl, fun j h1 h2 => absurd h2 (by omega)⟩
        case round =>
          obtain ⟨m, him, hm64, rfl, hall⟩ := hrel
          by_cases hml : m < 64
          · have hcm : wr.cell? ⟨w.heap.size, m, none⟩ = some (.bool (S m)) := by rw [hR.2.1.cell, rowC_get S m hml]
            cases hSm : S m with
            | true =>
              rw [hSm] at hcm
              have HSm := Lib.hid hSm
              clear hSm
              go_wp2_with fail
              go_round
              case rel => exact ⟨m + 1, by omega, by omega, by go_num, fun j h1 h2 => by
                by_cases e : j = m
                · subst e; exact HSm.out
                · exact hall.out j h1 (by omega)⟩
              case measure => simp [intOf]; omega
            | false =>
              rw [hSm] at hcm
              have HSm := Lib.hid hSm
              clear hSm
              have him2 : i < m := by
                rcases Nat.lt_or_ge i m with h | h
                · exact h
                · exact absurd HS.out (by first | (rw [show i = m by omega, HSm.out]; simp) | omega)
              have hend : m < 64 → S m = false := fun h => by first | exact HSm.out | omega
              have HEND := Lib.hid hend
              clear hend
              go_wp2_with (at_builtin; refine wpList_append_own _ rfl (.tmp 24) (.tmp 28) _ rfl (w.heap.size + 1) 109 i0 _ 2 16 Try.underlying107 hi hz0 hz1 hz2 rfl (by omega) u3 _ _ rfl (hR.own _) ⟨wr.heap.size, 0, none⟩ 1 1 [.int .i64 i, .int .i64 m] rfl rfl (two_new _ _ _ _) (by simp [Value.oneCell']) (by unfold maxLen; omega) (by omega) (by simp; omega) ?_; intro v1 w1 hown1 hg1 _)
              go_roundw
              case rel => exact ⟨m + 1, by omega, by go_num, hR.put him2 hm64 hall.out HEND.out hown1 hg1⟩
              case measure => simp [intOf]; omega
          · have HSm : Hid True := trivial
            have him2 : i < m := by
              rcases Nat.lt_or_ge i m with h | h
              · exact h
              · exact absurd HS.out (by first | (rw [show i = m by omega, HSm.out]; simp) | omega)
            have hend : m < 64 → S m = false := fun h => by first | exact HSm.out | omega
            have HEND := Lib.hid hend
            clear hend
            go_wp2_with (at_builtin; refine wpList_append_own _ rfl (.tmp 24) (.tmp 28) _ rfl (w.heap.size + 1) 109 i0 _ 2 16 Try.underlying107 hi hz0 hz1 hz2 rfl (by omega) u3 _ _ rfl (hR.own _) ⟨wr.heap.size, 0, none⟩ 1 1 [.int .i64 i, .int .i64 m] rfl rfl (two_new _ _ _ _) (by simp [Value.oneCell']) (by unfold maxLen; omega) (by omega) (by simp; omega) ?_; intro v1 w1 hown1 hg1 _)
            go_roundw
            case rel => exact ⟨m + 1, by omega, by go_num, hR.put him2 hm64 hall.out HEND.out hown1 hg1⟩
            case measure => simp [intOf]; omega
    · go_wp2_with fail
      go_ret
      obtain ⟨h1, h2, h3, h4⟩ := hR
      rw [show min i 64 = 64 by omega] at h1
      obtain ⟨A, c, rfl, hr⟩ := h1.runs
      exact ⟨A, c, rfl, hr, h3⟩
end Go.Proofs.Ytegpjjkbbdfggaa.sp
