/-
  Layer 30: the law SpanOrder: Few, the empty case told; the single places of runs.
-/
import Derived.Test.YtaimijgjpjhppaaLawPlaces
import Derived.Deep.RegionLaw
namespace Go.Proofs.Ytaimijgjpjhppaa.sp
set_option linter.unusedVariables false
set_option linter.unusedSimpArgs false
open Go.RowKit bs

def FewRelE (W : World) (k : Nat) (v : Value) (wr : World) : Prop :=
  ∃ l : List (Int × Int), l.length = k ∧ InRow l ∧ OwnRuns wr W.heap.size v l ∧ Below W.heap.size W wr ∧ (k = 0 → v = .slice none 0 0)
theorem FewRelE.put {W wr w1 : World} {k : Nat} {v v1 : Value} {l : List (Int × Int)} {p q : Int} (hk : l.length = k) (hr : InRow l) (h1 : OwnRuns wr W.heap.size v l) (h3 : Below W.heap.size W wr)
    (hown : w1.ownsRow W.heap.size 26 2 v1 (l.length + 1) (flat l ++ [.int .i64 p, .int .i64 (p + q - 1)])) (p0 : 0 ≤ p) (p1 : p < 30) (q0 : 0 ≤ q) (q1 : q < 12)
    {o : Obj} (hg : (wr.alloc o).grownBy w1 v.ownBlock) : FewRelE W (k + 1) v1 w1 := by
  have hne : ∀ k, v.ownBlock = some k → W.heap.size ≤ k := fun k hk => (h1.lt k hk).1
  refine ⟨l ++ [(p, p + q - 1)], by simp [hk], ?_, ?_, ?_, fun h => absurd h (by omega)⟩
  · intro r hr2
    rcases List.mem_append.1 hr2 with h | h
    · exact hr r h
    · obtain rfl : r = (p, p + q - 1) := by simpa using h
      exact ⟨p0, by show p ≤ 29; omega, by show -1 ≤ p + q - 1; omega, by show p + q - 1 ≤ 40; omega⟩
  · unfold OwnRuns
    simpa [flat] using hown
  · exact (h3.alloc h3.size o).grown hg (by have := h3.size; simp; omega) (fun k hk => by have := hne k hk; omega)

set_option maxRecDepth 100000 in
set_option maxHeartbeats 1600000 in
theorem few_anyE (A : Option Addr) (n c : Nat) (ns : Nat → Int) (w : World) (hr : Ints w A n c ns) (hn : n ≤ 9223372036854775807) :
    Calls Try.prog 16 #[.slice A n c] w fun e w' => ∃ (l : List (Int × Int)) (B : Option Addr) (d : Nat), e = .returned (.slice B l.length d) ∧ Runs w' B l.length d l ∧ l.length ≤ 10 ∧ InRow l ∧ Below w.heap.size w w' ∧ (l.length = 0 → B = none ∧ d = 0) := by
  obtain ⟨i0, hi, hz0, hz1, hz2⟩ := info_parts (show (Try.prog.info? 26).map (fun i => (i.zero, i.size, i.bytes)) = some (some (.agg #[.int .i64 0, .int .i64 0]), 2, 16) by kernel_rfl)
  go_enter Try.func16, Try.ntmps16
  go_wp2_with fail
  go_loopw [3, 4] (fun lv iv wr => ∃ k : Nat, k ≤ 10 ∧ iv = .int .i64 ((2 * k : Nat) : Int) ∧ FewRelE w k lv wr) (fun _ iv _ => 40 - (intOf iv).toNat)
  case atStart => exact ⟨0, by omega, rfl, [], rfl, fun r hr => (by cases hr), ⟨by simp [flat], .inl ⟨rfl, rfl⟩⟩, Below.refl _ _, fun _ => rfl⟩
  case round =>
    obtain ⟨k, hk, rfl, l, hlk, hin, hown, hbw, hnil⟩ := hrel
    have hsz := hbw.size
    by_cases hlt : 2 * k + 1 < n
    · by_cases h20 : k < 10
      · obtain ⟨hnc, hcell⟩ := hr.below hbw
        obtain ⟨b, o, rfl, hb, hcell⟩ := hcell (by omega)
        have c1 := hcell (2 * k) (by omega)
        have c2 := hcell (2 * k + 1) hlt
        generalize ns (2 * k) = x at *
        generalize ns (2 * k + 1) = y at *
        have d1 : decide (((2 * k : Nat) : Int) + 1 < (n : Int)) = true := by simp; omega
        have d2 : decide (((2 * k : Nat) : Int) < 20) = true := by simp; omega
        clear hnil
        have hO : ∀ o, (wr.alloc o).ownsRow w.heap.size 26 2 u3 l.length (flat l) := fun o => World.ownsRow.alloc hown o
        clear hcell
        go_wp2_with fail
        refine (place_in x 30 _ (by omega) (by omega)).mono ?_
        rintro e w2 ⟨p, rfl, p0, p1, rfl⟩
        go_wp2_with fail
        refine (place_in y 12 _ (by omega) (by omega)).mono ?_
        rintro e w2 ⟨q, rfl, q0, q1, rfl⟩
        go_wp2_with (at_builtin; refine wpList_append_own _ rfl (.tmp 22) (.tmp 34) _ rfl w.heap.size 26 i0 _ 2 16 Try.underlying22 hi hz0 hz1 hz2 rfl (by omega) u3 _ _ rfl (hO _) ⟨wr.heap.size, 0, none⟩ 1 1 [.int .i64 p, .int .i64 (p + q - 1)] rfl rfl (two_new _ _ _ _) (by simp [Value.oneCell']) (by unfold maxLen; omega) (by omega) (by simp; omega) ?_; intro v1 w1 hown1 hg1 _)
        go_roundw
        case rel => exact ⟨k + 1, by omega, by go_num, FewRelE.put hlk hin hown hbw hown1 p0 p1 q0 q1 hg1⟩
        case measure => simp [intOf]; omega
      · obtain rfl : k = 10 := by omega
        have d1 : decide (((2 * 10 : Nat) : Int) + 1 < (n : Int)) = true := by simp; omega
        go_wp2_with fail
        go_ret
        obtain ⟨B, d, rfl, hr2⟩ := hown.runs
        exact ⟨l, B, d, rfl, hr2, by omega, hin, hbw, fun h => by have h2 : l.length = 0 := (by simp [h]); omega⟩
    · have d1 : decide (((2 * k : Nat) : Int) + 1 < (n : Int)) = false := by simp; omega
      go_wp2_with fail
      go_ret
      obtain ⟨B, d, rfl, hr2⟩ := hown.runs
      exact ⟨l, B, d, rfl, hr2, by omega, hin, hbw, fun h => by have h2 : l.length = 0 := (by simp [h]); have := hnil (by omega); simp at this; exact ⟨this.1, this.2.2⟩⟩

/-- the single places from p up to q -/
def sing (p q : Int) : List (Int × Int) := (List.range (q - p).toNat).map fun (d : Nat) => (p + (d : Int), p + (d : Int) + 1)
def sings (l : List (Int × Int)) : List (Int × Int) := l.flatMap fun r => sing r.1 r.2
theorem sing_none (p : Int) : sing p p = [] := by unfold sing; simp
theorem sing_more {p j : Int} (h : p ≤ j) : sing p (j + 1) = sing p j ++ [(j, j + 1)] := by
  unfold sing
  obtain ⟨d, hd⟩ := Int.eq_ofNat_of_zero_le (show 0 ≤ j - p by omega)
  rw [show (j + 1 - p).toNat = d + 1 by omega, show (j - p).toNat = d by omega, List.range_succ, List.map_append]
  congr 1
  simp; omega
theorem sing_len (p q : Int) : (sing p q).length = (q - p).toNat := by simp [sing]
theorem inRuns_sing (p q : Int) (i : Nat) : inRuns (sing p q) i = inRuns [(p, q)] i := by
  rw [inRuns_one, Bool.eq_iff_iff]
  simp only [inRuns, sing, List.any_map, List.any_eq_true, List.mem_range, Function.comp, Bool.and_eq_true, decide_eq_true_eq]
  constructor
  · rintro ⟨d, h1, h2, h3⟩; omega
  · rintro ⟨h1, h2⟩; exact ⟨((i : Int) - p).toNat, by omega, by omega, by omega⟩
theorem sings_cons (r : Int × Int) (l : List (Int × Int)) : sings (r :: l) = sing r.1 r.2 ++ sings l := by simp [sings]
theorem sings_append (l m : List (Int × Int)) : sings (l ++ m) = sings l ++ sings m := by simp [sings]
theorem sings_one (p q : Int) : sings [(p, q)] = sing p q := by simp [sings]
theorem inRuns_sings (l : List (Int × Int)) (i : Nat) : inRuns (sings l) i = inRuns l i := by
  induction l with
  | nil => rfl
  | cons r l ih =>
    rw [sings_cons, inRuns_append, ih, inRuns_sing]
    show _ = inRuns ([r] ++ l) i
    rw [inRuns_append]
theorem sings_len {l : List (Int × Int)} (h : ∀ r ∈ l, r.2 - r.1 ≤ 64) : (sings l).length ≤ 64 * l.length := by
  induction l with
  | nil => simp [sings]
  | cons r l ih =>
    have h1 := ih fun r hr => h r (List.mem_cons_of_mem _ hr)
    have h2 := h r List.mem_cons_self
    rw [sings_cons, List.length_append, sing_len, List.length_cons]
    omega
theorem sings_cnt (S : Nat → Bool) (k : Nat) : (sings (rl S k)).length = cnt S k := by
  induction k with
  | zero => rfl
  | succ k ih =>
    cases hS : S k with
    | false => rw [rl_no hS, cnt_no hS, ih]
    | true =>
      rw [cnt_yes hS]
      cases ho : (st S k).2 with
      | none =>
        rw [rl_grow (m := k + 1) ho (by omega) (fun j h1 h2 => by obtain rfl : j = k := by omega
                                                                  exact hS), sings_append, List.length_append, ih, sings_one, sing_len]
        omega
      | some f =>
        have hf := ((st_inv S k).1 f ho).1
        have e : st S (k + 1) = ((st S k).1, some f) := by simp [st, hS, ho]
        unfold rl at ih ⊢
        rw [e]
        rw [ho] at ih
        simp only [close, sings_append, List.length_append, sings_one, sing_len] at ih ⊢
        omega
theorem mayFrom_mem {w : Int} : ∀ {last : Int} {l : List (Int × Int)}, -1 ≤ last → mayFrom w last l = true → ∀ r ∈ l, 0 ≤ r.1 ∧ r.1 < r.2 ∧ r.2 ≤ w
  | _, [], _, _, r, hr => by cases hr
  | last, (x, y) :: l, h0, h, r, hr => by
    simp only [mayFrom, Bool.and_eq_true, decide_eq_true_eq] at h
    rcases List.mem_cons.1 hr with e | e
    · subst e; exact ⟨by show 0 ≤ x; omega, h.1.2.1, h.1.2.2⟩
    · exact mayFrom_mem (by omega) h.2 r e
theorem norm_mem (l : List (Int × Int)) : ∀ r ∈ norm l 64, 0 ≤ r.1 ∧ r.1 < r.2 ∧ r.2 ≤ 64 := mayFrom_mem (by omega) (may_rl _ 64 64 (by omega))
theorem norm_norm (l : List (Int × Int)) : norm (norm l 64) 64 = norm l 64 := rl_again (inRuns l) 64
theorem norm_sings (l : List (Int × Int)) : norm (sings (norm l 64)) 64 = norm l 64 := by
  rw [← norm_norm l]
  exact rl_ext 64 fun i _ => by rw [inRuns_sings, norm_norm]
theorem cnt_sings (l : List (Int × Int)) : cnt (inRuns (sings (norm l 64))) 64 = (sings (norm l 64)).length ∧ cnt (inRuns l) 64 = (sings (norm l 64)).length := by
  have h : (sings (norm l 64)).length = cnt (inRuns l) 64 := sings_cnt (inRuns l) 64
  refine ⟨?_, h.symm⟩
  rw [h]
  refine cnt_ext 64 fun i hi => ?_
  rw [inRuns_sings]
  show inRuns (rl (inRuns l) 64) i = _
  rw [inRuns_rl]; simp [hi]
end Go.Proofs.Ytaimijgjpjhppaa.sp
