/-
  Masks: cover.May, region.Of. (PRUNE)
-/
import Derived.Test.YtegpjjkbbdfggaaPage
import Derived.Test.YtegpjjkbbdfggaaRegOps2
namespace Go.Proofs.Ytegpjjkbbdfggaa.rg
set_option linter.unusedVariables false
set_option linter.unusedSimpArgs false
open Go.RowKit bs sp ik

theorem cside_yes (n : Nat) (h : 1 ≤ n ∧ n ≤ 64) (w : World) : Calls Try.prog 127 #[.int .i64 (n : Int)] w fun e w' => e = .returned (.bool true) ∧ w = w' := by
  go_enter Try.func127, Try.ntmps127
  go_wp2_with fail
  go_ret
  exact ⟨ret_bool (by simp; omega), rfl⟩

set_option maxRecDepth 100000 in
set_option maxHeartbeats 1600000 in
theorem cmay_yes (W H q c : Nat) (A : Option Addr) (B : Nat → Int) (w : World) (hW : 1 ≤ W ∧ W ≤ 64) (hH : 1 ≤ H ∧ H ≤ 64) (hq : q = W * H) (hp : Pg w A q c B) (hB : ∀ j, j < q → B j ≤ 1) :
    Calls Try.prog 113 #[.agg #[.int .i64 (W : Int), .int .i64 (H : Int), .slice A q c]] w fun e w' => e = .returned (.bool true) ∧ Below w.heap.size w w' := by
  have hs := page_size hW hH
  rw [← hq] at hs
  have hm : (W : Int) * (H : Int) = (q : Int) := by rw [hq]; push_cast; rfl
  have HS1 := Lib.hid (cside_yes W hW)
  have HS2 := Lib.hid (cside_yes H hH)
  obtain ⟨hqc, b, o, rfl, hlt, hcell⟩ := hp
  have HC := Lib.hid hcell
  have HB := Lib.hid hB
  have hbw : Below w.heap.size w (w.alloc (.cells #[.int .i64 (W : Int), .int .i64 (H : Int), .slice (some ⟨b, o, none⟩) q c] 111)) := balloc (Below.refl _ _) _
  have HBW := Lib.hid hbw
  clear hW hH hq hcell hB hbw
  go_enter Try.func113, Try.ntmps113
  go_wp2_with (go_at_call 127; first | (refine (HS1.out _).mono ?_; rintro e w' ⟨rfl, rfl⟩) | (refine (HS2.out _).mono ?_; rintro e w' ⟨rfl, rfl⟩))
  go_loopw [29] (fun kv wr => ∃ k : Nat, k ≤ q ∧ kv = .int .i64 (k : Int) ∧ Below w.heap.size w wr) (fun kv _ => q - (intOf kv).toNat)
  case atStart => exact ⟨0, by omega, rfl, HBW.out⟩
  case round =>
    clear HBW
    obtain ⟨k, hk, rfl, hbw⟩ := hrel
    by_cases hkq : k < q
    · have d1 : decide ((k : Int) < (q : Int)) = true := by simp; omega
      obtain ⟨h1, h2, h3⟩ := HC.out k hkq
      have h4 := HB.out k hkq
      have h5 := (hbw.cell (p := ⟨b, o + k, none⟩) hlt).trans h1
      generalize B k = x at *
      have d2 : decide (1 < x) = false := by simp; omega
      clear h1
      go_wp2_with fail
      go_roundw
      case rel => exact ⟨k + 1, by omega, by go_num, hbw⟩
      case measure => simp [intOf]; omega
    · obtain rfl : k = q := by omega
      have d1 : decide ((k : Int) < (k : Int)) = false := by simp
      go_wp2_with fail
      go_ret
      exact ⟨rfl, hbw⟩

/-- the runs of the first i places of a mask's row from p on -/
def mrow (B : Nat → Int) (p i : Nat) : List (Int × Int) := (List.range i).map fun (t : Nat) => ((t : Int), (t : Int) + B (p + t))
theorem mrow_len (B : Nat → Int) (p i : Nat) : (mrow B p i).length = i := by simp [mrow]
theorem mrow_succ (B : Nat → Int) (p i : Nat) : mrow B p (i + 1) = mrow B p i ++ [((i : Int), (i : Int) + B (p + i))] := by simp [mrow, List.range_succ]
theorem mrow_in (B : Nat → Int) (p n : Nat) (hB : ∀ t, t < n → B (p + t) = 0 ∨ B (p + t) = 1) (i : Nat) (hi : i < n) : inRuns (mrow B p n) i = decide (B (p + i) = 1) := by
  unfold inRuns mrow
  rw [Bool.eq_iff_iff]
  simp only [List.any_eq_true, List.mem_map, List.mem_range, Bool.and_eq_true, decide_eq_true_eq]
  constructor
  · rintro ⟨x, ⟨t, ht, rfl⟩, h1, h2⟩
    simp only at h1 h2
    rcases hB t ht with h | h
    · rw [h] at h2; omega
    · rw [h] at h2
      obtain rfl : t = i := by omega
      exact h
  · intro h
    exact ⟨_, ⟨i, hi, rfl⟩, by simp, by simp [h]; omega⟩
theorem norm_mrow (W : Nat) (B : Nat → Int) (j : Nat) (hW : W ≤ 64) (hB : ∀ t, t < W → B (j * W + t) = 0 ∨ B (j * W + t) = 1) : norm (mrow B (j * W) W) W = rowsOf W (fun j i => decide (B (j * W + i) = 1)) j := by
  unfold norm rowsOf
  rw [show (max 0 (min (W : Int) 64)).toNat = W by omega]
  exact rl_ext W fun i hi => mrow_in B (j * W) W hB i hi

/-- Of's row behind i rounds -/
def ORel (w : World) (B : Nat → Int) (p i : Nat) (v : Value) (wr : World) : Prop := OwnRuns wr w.heap.size v (mrow B p i) ∧ Below w.heap.size w wr
theorem ORel.put {w wr w1 : World} {B : Nat → Int} {p i : Nat} {v v1 : Value} {o : Obj} (h : ORel w B p i v wr)
    (hown : w1.ownsRow w.heap.size 109 2 v1 (i + 1) (flat (mrow B p i) ++ [.int .i64 (i : Int), .int .i64 ((i : Int) + B (p + i))])) (hg : (wr.alloc o).grownBy w1 v.ownBlock) : ORel w B p (i + 1) v1 w1 := by
  obtain ⟨h1, h2⟩ := h
  refine ⟨?_, Below.grown (balloc h2 o) hg (by have := h2.size; simp; omega) (fun k e => (h1.lt k e).1)⟩
  unfold OwnRuns
  rw [mrow_len, mrow_succ]
  simpa [flat] using hown
theorem two_newR (w : World) (x y : Value) (t : TypeId) : ∀ (j : Nat) (u : Value), [x, y][j]? = some u → (w.alloc (.cells #[x, y] t)).cell? ((⟨w.heap.size, 0, none⟩ : Addr).add j) = some u := by
  intro j u hu
  have hadd : (⟨w.heap.size, 0, none⟩ : Addr).add j = ⟨w.heap.size, j, none⟩ := by unfold Addr.add; split <;> simp_all
  rw [hadd, (Blk.new w t #[x, y]).cell]
  simpa using hu

set_option maxRecDepth 100000 in
set_option maxHeartbeats 1600000 in
theorem of1_any (W H q c mB j : Nat) (A : Option Addr) (B : Nat → Int) (w : World) (hW : 1 ≤ W ∧ W ≤ 64) (hH : 1 ≤ H ∧ H ≤ 64) (hj : j < H) (hq : q = W * H) (Km : Blk w mB 111 #[.int .i64 (W : Int), .int .i64 (H : Int), .slice A q c]) (hp : Pg w A q c B) :
    Calls Try.prog 114 #[.int .i64 (j : Int), .pointer (some ⟨mB, 0, none⟩)] w fun e w' => ∃ A n c, e = .returned (.slice A n c) ∧ n ≤ 9223372036854775807 ∧ Runs w' A n c (mrow B (j * W) W) ∧ Below w.heap.size w w' := by
  obtain ⟨i0, hi, hz0, hz1, hz2⟩ := info_parts (show (Try.prog.info? 109).map (fun i => (i.zero, i.size, i.bytes)) = some (some (.agg #[.int .i64 0, .int .i64 0]), 2, 16) by kernel_rfl)
  have hs := page_size hW hH
  rw [← hq] at hs
  obtain ⟨hqc, b, o, rfl, hlt, hcell⟩ := hp
  have e0 := Km.cell 0
  have e2 := Km.cell 2
  simp only [List.getElem?_toArray, List.getElem?_cons_succ, List.getElem?_cons_zero] at e0 e2
  obtain ⟨p, hpp⟩ : ∃ p, j * W = p := ⟨_, rfl⟩
  have hp1 : (j : Int) * (W : Int) = (p : Int) := by rw [← hpp]; push_cast; rfl
  have hp2 : ((j : Int) + 1) * (W : Int) = (p : Int) + (W : Int) := by rw [Int.add_mul, Int.one_mul, hp1]
  have hpq : p + W ≤ q := by
    have h1 : (j + 1) * W ≤ H * W := Nat.mul_le_mul_right W hj
    rw [Nat.add_mul, Nat.one_mul, hpp, Nat.mul_comm H W, ← hq] at h1
    exact h1
  rw [hpp]
  obtain ⟨w0, w1⟩ := hW
  have hcp : ¬ c = p := by omega
  have hj64 : j < 64 := by omega
  have hc9 : p + W ≤ c := by omega
  have hk9 : p + W ≤ 4096 := by omega
  have hps : p + W - p = W := by omega
  have hpt : ((p : Int) + (W : Int)).toNat = p + W := by omega
  have HC := Lib.hid hcell
  have HQ := Lib.hid hq
  clear hpp hcell Km hH hq
  go_enter Try.func114, Try.ntmps114
  go_wp2_with fail
  go_loopw [4, 20] (fun v iv wr => ∃ i : Nat, i ≤ W ∧ iv = .int .i64 (i : Int) ∧ ORel w B p i v wr) (fun _ iv _ => W - (intOf iv).toNat)
  case atStart => exact ⟨0, by omega, rfl, ⟨by simp [mrow, flat], .inl ⟨rfl, rfl⟩⟩, by (repeat' (first | exact Below.refl _ _ | exact Below.refl _ _ | refine balloc ?_ _ | refine Below.drew ?_ | refine below_drewN ?_ _ | refine bset ?_ (by first | omega | (simp <;> omega)) _))⟩
  case round =>
    obtain ⟨i, hiW, rfl, hO⟩ := hrel
    by_cases hlt2 : i < W
    · have d1 : decide ((i : Int) < (W : Int)) = true := by simp; omega
      obtain ⟨h1, h2, h3⟩ := HC.out (p + i) (by omega)
      have h5 : wr.cell? ⟨b, o + p + i, none⟩ = some (.int .u8 (B (p + i))) := by rw [Nat.add_assoc]; exact (hO.2.cell (p := ⟨b, o + (p + i), none⟩) hlt).trans h1
      have HXO := Lib.hid (fun o' => World.ownsRow.alloc (o := o') hO.1)
      simp only [mrow_len] at HXO
      have hsz := hO.2.size
      have HPUT := Lib.hid (fun v1 w1 o' hown hg => hO.put (v1 := v1) (w1 := w1) (o := o') hown hg)
      generalize B (p + i) = x at *
      clear h1 hO
      have jx : (0 : Int) ≤ (i : Int) + x ∧ (i : Int) + x ≤ 1000 := by omega
      obtain ⟨jx0, jx1⟩ := jx
      go_wp2_with (at_builtin; refine wpList_append_own _ rfl (.tmp 25) (.tmp 32) _ rfl w.heap.size 109 i0 _ 2 16 Try.underlying107 hi hz0 hz1 hz2 rfl (by omega) u4 _ _ rfl (HXO.out _) ⟨wr.heap.size, 0, none⟩ 1 1 [.int .i64 (i : Int), .int .i64 ((i : Int) + x)] rfl rfl (two_newR _ _ _ _) (by simp [Value.oneCell']) (by simp [maxLen]; omega) (by omega) (by first | (simp; done) | (simp; omega)) ?_; intro v1 w1 hown1 hg1 _)
      go_roundw
      case rel => exact ⟨i + 1, by omega, by go_num, HPUT.out v1 w1 _ hown1 hg1⟩
      case measure => simp [intOf]; omega
    · obtain rfl : i = W := by omega
      have d1 : decide ((i : Int) < (i : Int)) = false := by simp
      obtain ⟨A1, c1, hv, hr⟩ := hO.1.runs
      rw [mrow_len] at hv hr
      have hbw := hO.2
      subst hv
      clear hO
      go_wp2_with fail
      go_ret
      exact ⟨A1, _, c1, rfl, by omega, hr, hbw⟩
end Go.Proofs.Ytegpjjkbbdfggaa.rg
