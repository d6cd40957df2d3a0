/-
  The reference for runs: the contract of Runs. (PRUNE)
-/
import Derived.Test.YtmjpmeigfdgioaaRef30
namespace Go.Proofs.Ytmjpmeigfdgioaa.sp
set_option linter.unusedVariables false
set_option linter.unusedSimpArgs false
open Go.RowKit bs

def RrRel (W : World) (S : Nat → Bool) (i : Nat) (v : Value) (wr : World) : Prop :=
  OwnRuns wr (W.heap.size + 1) v (rl S i) ∧ Blk wr W.heap.size 64 (rowC S) ∧ Below W.heap.size W wr
theorem RrRel.own {W wr : World} {S : Nat → Bool} {i : Nat} {v : Value} (h : RrRel W S i v wr) (o : Obj) : (wr.alloc o).ownsRow (W.heap.size + 1) 78 2 v (rl S i).length (flat (rl S i)) := World.ownsRow.alloc h.1 o
theorem RrRel.small {W wr : World} {S : Nat → Bool} {i : Nat} {v : Value} (h : RrRel W S i v wr) (hi : i ≤ 64) : (rl S i).length ≤ 64 ∧ W.heap.size + 1 ≤ wr.heap.size :=
  ⟨by have := (rl_len S i).1; omega, h.2.1.lt⟩
theorem RrRel.skip {W wr : World} {S : Nat → Bool} {i : Nat} {v : Value} (h : RrRel W S i v wr) (hS : S i = false) : RrRel W S (i + 1) v wr := by
  obtain ⟨h1, h2, h3⟩ := h
  exact ⟨by rw [rl_no hS]; exact h1, h2, h3⟩
theorem st_first {S : Nat → Bool} {i : Nat} (h : i = 0 ∨ S (i - 1) = false) : (st S i).2 = none := by
  cases i with
  | zero => rfl
  | succ q => 
    rcases h with h | h
    · cases h
    · rw [st_no (by simpa using h)]
theorem RrRel.put {W wr w1 : World} {S : Nat → Bool} {i : Nat} {v v1 : Value} (h : RrRel W S i v wr) (hS : S i = true) (hf : i = 0 ∨ S (i - 1) = false)
    (hown : w1.ownsRow (W.heap.size + 1) 78 2 v1 ((rl S i).length + 1) (flat (rl S i) ++ [.int .i64 i, .int .i64 ((i : Int) + 1)]))
    {o : Obj} (hg : (wr.alloc o).grownBy w1 v.ownBlock) : RrRel W S (i + 1) v1 w1 := by
  obtain ⟨h1, h2, h3⟩ := h
  have e : rl S (i + 1) = rl S i ++ [((i : Int), ((i + 1 : Nat) : Int))] :=
    rl_grow (st_first hf) (by omega) (fun j a b => by obtain rfl : j = i := by omega
                                                      exact hS)
  have hne : ∀ k, v.ownBlock = some k → W.heap.size + 1 ≤ k := fun k hk => (h1.lt k hk).1
  refine ⟨?_, ?_, ?_⟩
  · unfold OwnRuns
    rw [e]
    simpa [flat] using hown
  · exact ((h2.alloc o).grown hg (fun e => by have := hne _ e.symm; omega))
  · exact (h3.alloc h3.size o).grown hg (by have := h3.size; simp; omega) (fun k hk => by have := hne k hk; omega)
theorem st_open {S : Nat → Bool} {q : Nat} (h : S q = true) : ∃ f, (st S (q + 1)).2 = some f := ⟨_, by rw [st_yes h]⟩
theorem RrRel.more {W wr : World} {S : Nat → Bool} {q : Nat} {v : Value} (h : RrRel W S (q + 1) v wr) (hS : S (q + 1) = true) (hp : S q = true) :
    ∃ g m cap, v = .slice (some ⟨g, 0, none⟩) (m + 1) cap ∧ m ≤ q ∧ (∃ u, wr.cell? ⟨g, m * 2 + 1, none⟩ = some u) ∧ wr.frozen? ⟨g, m * 2 + 1, none⟩ = false ∧
      RrRel W S (q + 1 + 1) v (wr.setCell ⟨g, m * 2 + 1, none⟩ (.int .i64 ((q : Int) + 1 + 1))) := by
  obtain ⟨h1, h2, h3⟩ := h
  obtain ⟨f, hf⟩ := st_open hp
  have e1 : rl S (q + 1) = (st S (q + 1)).1 ++ [((f : Int), ((q + 1 : Nat) : Int))] := by
    show close (st S (q + 1)).1 (q + 1) (st S (q + 1)).2 = _
    rw [hf]; rfl
  have e2 : rl S (q + 1 + 1) = (st S (q + 1)).1 ++ [((f : Int), ((q + 1 + 1 : Nat) : Int))] := by
    show close (st S (q + 1 + 1)).1 (q + 1 + 1) (st S (q + 1 + 1)).2 = _
    rw [st_yes hS, hf]; rfl
  have hlen := (rl_len S (q + 1)).1
  generalize hd : (st S (q + 1)).1 = d at *
  have hl : (rl S (q + 1)).length = d.length + 1 := by rw [e1]; simp
  unfold OwnRuns at h1
  rw [hl] at h1
  obtain ⟨g, cap, hv, hcap, hlt⟩ := h1.form (by omega)
  subst hv
  have hcell := h1.cellAt (d.length * 2 + 1) (by omega)
  have hfz := h1.frozenAt (d.length * 2 + 1)
  have hst := h1.stored (d.length * 2 + 1) (.int .i64 ((q : Int) + 1 + 1))
  have hg := (h1.lt g rfl).1
  refine ⟨g, d.length, cap, rfl, by omega, ⟨.int .i64 ((q + 1 : Nat) : Int), ?_⟩, hfz, ?_, h2.far (by show W.heap.size ≠ g; omega) _, bset h3 (by show W.heap.size ≤ g; omega) _⟩
  · rw [hcell, e1, flat_append, List.getElem?_append_right (by rw [flat_len]; omega), flat_len]
    simp [flat]
  · unfold OwnRuns
    have e3 : (flat (rl S (q + 1))).set (d.length * 2 + 1) (.int .i64 ((q : Int) + 1 + 1)) = flat (rl S (q + 1 + 1)) := by
      rw [e1, e2, flat_append, flat_append, List.set_append_right _ _ (by rw [flat_len]; omega), flat_len]
      simp [flat]
    rw [e3] at hst
    have hl2 : (rl S (q + 1 + 1)).length = d.length + 1 := by rw [e2]; simp
    rw [hl2]
    exact hst.1

set_option maxRecDepth 100000 in
set_option maxHeartbeats 1600000 in
theorem rruns_own (S : Nat → Bool) (x : Int) (w : World) :
    Calls Try.prog 29 #[.agg (rowC S), .int .i64 x] w fun e w' => ∃ A c, e = .returned (.slice A (rl S (max 0 (min x 64)).toNat).length c) ∧ Runs w' A (rl S (max 0 (min x 64)).toNat).length c (rl S (max 0 (min x 64)).toNat) ∧ (∀ k, (Value.slice A (rl S (max 0 (min x 64)).toNat).length c).ownBlock = some k → w.heap.size ≤ k) ∧ Below w.heap.size w w' := by
  obtain ⟨i0, hi, hz0, hz1, hz2⟩ := info_parts (show (Try.prog.info? 78).map (fun i => (i.zero, i.size, i.bytes)) = some (some (.agg #[.int .i64 0, .int .i64 0]), 2, 16) by kernel_rfl)
  obtain ⟨m, hm, hm64⟩ : ∃ m : Nat, max 0 (min x 64) = (m : Int) ∧ m ≤ 64 := ⟨(max 0 (min x 64)).toNat, by omega, by omega⟩
  rw [hm, Int.toNat_natCast]
  go_enter Try.func29, Try.ntmps29
  go_wp2_with fail
  go_loopw [5, 6] (fun ov iv wr => ∃ i : Nat, i ≤ m ∧ iv = .int .i64 i ∧ RrRel w S i ov wr) (fun _ iv _ => 64 - (intOf iv).toNat)
  case atStart => exact ⟨0, by omega, rfl, ⟨by simp [rl_zero, flat], .inl ⟨rfl, rfl⟩⟩, Blk.new w _ _, balloc (Below.refl _ _) _⟩
  case round =>
    obtain ⟨i, him, rfl, hR⟩ := hrel
    by_cases hlt : i < m
    · have hcell : wr.cell? ⟨w.heap.size, i, none⟩ = some (.bool (S i)) := by rw [hR.2.1.cell, rowC_get S i (by omega)]
      obtain ⟨hsm1, hsm2⟩ := hR.small (by omega)
      have hi64 : i < 64 := by omega
      cases hS : S i with
      | false =>
        rw [hS] at hcell
        have hnext := hR.skip hS
        clear hS
        go_wp2_with (go_at_call 50; refine (rcut_any _ _).mono ?_; rintro e w' ⟨rfl, rfl⟩)
        go_roundw
        case rel => exact ⟨i + 1, by omega, by go_num, hnext⟩
        case measure => simp [intOf]; omega
      | true =>
        rw [hS] at hcell
        have HS := Lib.hid hS
        by_cases hfirst : i = 0 ∨ S (i - 1) = false
        · have HF := Lib.hid hfirst
          cases i with
          | zero =>
            clear hS hfirst
            go_wp2_with (first
              | (go_at_call 50; refine (rcut_any _ _).mono ?_; rintro e w' ⟨rfl, rfl⟩)
              | (at_builtin; refine wpList_append_own _ rfl (.tmp 33) (.tmp 38) _ rfl (w.heap.size + 1) 78 i0 _ 2 16 Try.underlying65 hi hz0 hz1 hz2 rfl (by omega) u5 _ _ rfl (hR.own _) ⟨wr.heap.size, 0, none⟩ 1 1 [.int .i64 ((0 : Nat) : Int), .int .i64 (((0 : Nat) : Int) + 1)] rfl rfl (two_new _ _ _ _) (by simp [Value.oneCell']) (by unfold maxLen; omega) (by omega) (by simp; omega) ?_; intro v1 w1 hown1 hg1 _))
            go_roundw
            case rel => exact ⟨0 + 1, by omega, by go_num, hR.put HS.out (.inl rfl) hown1 hg1⟩
            case measure => simp [intOf]
          | succ q =>
            have hq : S q = false := by rcases hfirst with h | h; · cases h
                                        · simpa using h
            have hcell2 : wr.cell? ⟨w.heap.size, q, none⟩ = some (.bool false) := by rw [hR.2.1.cell, rowC_get S q (by omega), hq]
            clear hS hfirst hq
            go_wp2_with (first
              | (go_at_call 50; refine (rcut_any _ _).mono ?_; rintro e w' ⟨rfl, rfl⟩)
              | (at_builtin; refine wpList_append_own _ rfl (.tmp 33) (.tmp 38) _ rfl (w.heap.size + 1) 78 i0 _ 2 16 Try.underlying65 hi hz0 hz1 hz2 rfl (by omega) u5 _ _ rfl (hR.own _) ⟨wr.heap.size, 0, none⟩ 1 1 [.int .i64 ((q + 1 : Nat) : Int), .int .i64 (((q + 1 : Nat) : Int) + 1)] rfl rfl (two_new _ _ _ _) (by simp [Value.oneCell']) (by unfold maxLen; omega) (by omega) (by simp; omega) ?_; intro v1 w1 hown1 hg1 _))
            go_roundw
            case rel => exact ⟨q + 1 + 1, by omega, by go_num, hR.put HS.out HF.out hown1 hg1⟩
            case measure => simp [intOf]; omega
        · cases i with
          | zero => exact absurd (.inl rfl) hfirst
          | succ q =>
            have hq : S q = true := by
              cases h : S q with
              | true => rfl
              | false => exact absurd (.inr (by simpa using h)) hfirst
            have hcell2 : wr.cell? ⟨w.heap.size, q, none⟩ = some (.bool true) := by rw [hR.2.1.cell, rowC_get S q (by omega), hq]
            obtain ⟨g, d, cap, rfl, hdq, ⟨u, hu⟩, hfz, hnext⟩ := hR.more hS hq
            clear hS hfirst hq
            go_wp2_with (go_at_call 50; refine (rcut_any _ _).mono ?_; rintro e w' ⟨rfl, rfl⟩)
            go_roundw
            case rel => exact ⟨q + 1 + 1, by omega, by go_num, hnext⟩
            case measure => simp [intOf]; omega
    · obtain rfl : i = m := by omega
      go_wp2_with (go_at_call 50; refine (rcut_any _ _).mono ?_; rintro e w' ⟨rfl, rfl⟩)
      go_ret
      obtain ⟨h1, h2, h3⟩ := hR
      obtain ⟨A, c, rfl, hr⟩ := h1.runs
      exact ⟨A, c, rfl, hr, fun k hk => by have := (h1.lt k hk).1; omega, h3⟩
theorem rruns_any (S : Nat → Bool) (x : Int) (w : World) :
    Calls Try.prog 29 #[.agg (rowC S), .int .i64 x] w fun e w' => ∃ A c, e = .returned (.slice A (rl S (max 0 (min x 64)).toNat).length c) ∧ Runs w' A (rl S (max 0 (min x 64)).toNat).length c (rl S (max 0 (min x 64)).toNat) ∧ Below w.heap.size w w' :=
  (rruns_own S x w).mono fun e w' ⟨A, c, he, hr, _, hb⟩ => ⟨A, c, he, hr, hb⟩
end Go.Proofs.Ytmjpmeigfdgioaa.sp
