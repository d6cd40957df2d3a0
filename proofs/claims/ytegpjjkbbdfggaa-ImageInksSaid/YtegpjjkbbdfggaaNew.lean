/-
  Layer 36: the contract of New. (PRUNE)
-/
import Derived.Test.YtegpjjkbbdfggaaBlend
import Derived.Test.YtegpjjkbbdfggaaInk
namespace Go.Proofs.Ytegpjjkbbdfggaa.ik
set_option linter.unusedVariables false
set_option maxRecDepth 100000
set_option linter.unusedSimpArgs false
open Go.RowKit bs

/-- behind k rounds of New's loop: block g holds the bytes, block g + 1 the page, block r the result's place -/
def NewRel (W0 : World) (g r k n : Nat) (pg : Array Value) (wr : World) : Prop :=
  ∃ cs : Array Value, Blk wr g 5 cs ∧ cs.size = n ∧ (∀ j, j < k → cs[j]? = some (.int .u8 255)) ∧ Blk wr (g + 1) 46 pg ∧
    Blk wr r 46 #[.int .i64 0, .int .i64 0, .slice none 0 0] ∧ r < g ∧ W0.heap.size ≤ r ∧ Below W0.heap.size W0 wr
theorem NewRel.start (w : World) (n : Nat) (pg : Array Value) : NewRel w (w.heap.size + 1) w.heap.size 0 n pg
    (((w.alloc (.cells #[.int .i64 0, .int .i64 0, .slice none 0 0] 46)).alloc (.cells (madeCells #[.int .u8 0] n) 5)).alloc (.cells pg 46)) := by
  have b0 := Blk.new w 46 #[.int .i64 0, .int .i64 0, .slice none 0 0]
  have b1 := Blk.new (w.alloc (.cells #[.int .i64 0, .int .i64 0, .slice none 0 0] 46)) 5 (madeCells #[.int .u8 0] n)
  have b2 := Blk.new ((w.alloc (.cells #[.int .i64 0, .int .i64 0, .slice none 0 0] 46)).alloc (.cells (madeCells #[.int .u8 0] n) 5)) 46 pg
  have s1 : ∀ (u : World) (o : Obj), (u.alloc o).heap.size = u.heap.size + 1 := fun u o => by simp
  simp only [s1] at b1 b2
  exact ⟨_, b1.alloc _, size_madeCells _ _, fun j hj => absurd hj (by omega), b2, (b0.alloc _).alloc _, by omega, Nat.le_refl _, by (repeat' (first | exact Below.refl _ _ | exact Below.refl _ _ | refine balloc ?_ _ | refine Below.drew ?_ | refine below_drewN ?_ _ | refine bset ?_ (by first | omega | (simp <;> omega)) _))⟩
theorem NewRel.step {W0 wr : World} {g r k n : Nat} {pg : Array Value} (h : NewRel W0 g r k n pg wr) (hk : k < n) : NewRel W0 g r (k + 1) n pg (wr.setCell ⟨g, k, none⟩ (.int .u8 255)) := by
  obtain ⟨cs, h1, h2, h3, h4, h5, h6, h7, h8⟩ := h
  refine ⟨_, h1.set_ k _, by simp [h2], fun j hj => ?_, h4.far (by simp) _, h5.far (by show r ≠ g; omega) _, h6, h7, bset h8 (by show W0.heap.size ≤ g; omega) _⟩
  rw [Array.getElem?_setIfInBounds]
  by_cases hjk : k = j
  · subst hjk; simp [h2, hk]
  · simp [hjk, h3 j (by omega)]
theorem NewRel.cell {W0 wr : World} {g r k n : Nat} {pg : Array Value} (h : NewRel W0 g r k n pg wr) (hk : k < n) : ∃ v, wr.cell? ⟨g, k, none⟩ = some v := by
  obtain ⟨cs, h1, h2, _⟩ := h
  exact ⟨cs[k], by rw [h1.cell]; exact Array.getElem?_eq_getElem (by omega)⟩

theorem new_yes (V G : Nat) (w : World) (hV : 1 ≤ V ∧ V ≤ 64) (hG : 1 ≤ G ∧ G ≤ 64) :
    Calls Try.prog 35 #[.int .i64 (V : Int), .int .i64 (G : Int)] w fun e w' => ∃ A n c, e = .returned (.tuple #[.agg #[.int .i64 V, .int .i64 G, .slice A n c], .int .i64 0]) ∧
      Bytes w' A n c (List.replicate (3 * (V * G)) 255) ∧ Below w.heap.size w w' := by
  have s1 : sideB (V : Int) = true := sideB_true (by omega) (by omega)
  have s2 : sideB (G : Int) = true := sideB_true (by omega) (by omega)
  have hq : V * G ≤ 4096 := Nat.mul_le_mul (show V ≤ 64 by omega) (show G ≤ 64 by omega)
  obtain ⟨v0, v1⟩ := hV
  obtain ⟨g0, g1⟩ := hG
  obtain ⟨n, hn⟩ : ∃ n, n = 3 * (V * G) := ⟨_, rfl⟩
  have hm : 3 * (V : Int) * (G : Int) = (n : Int) := by rw [hn]; push_cast; rw [Int.mul_assoc]
  rw [← hn]
  have hn9 : n ≤ 12288 := by omega
  have HN := Lib.hid hn
  clear hn
  obtain ⟨i0, hi, hz0, hz1, hz2⟩ := info_parts (show (Try.prog.info? 5).map (fun i => (i.zero, i.size, i.bytes)) = some (some (.int .u8 0), 1, 1) by kernel_rfl)
  have hmk := fun W => run_make_rowN (P := Try.prog) 44 5 i0 (.int .u8 0) Try.underlying44 hi hz0 .i64 .i64 n n (Nat.le_refl _) (by rw [hz2]; omega) (by omega) W
  simp only [hz1, Nat.mul_one] at hmk
  go_enter Try.func35, Try.ntmps35
  go_wp2_with (go_at_call 73; refine (side_any _ _).mono ?_; rintro e w' ⟨rfl, rfl⟩)
  go_loopw [28] (fun c wr => ∃ k : Nat, k ≤ n ∧ c = .int .i64 k ∧ NewRel w (w.heap.size + 1) w.heap.size k n #[.int .i64 V, .int .i64 G, .slice (some ⟨w.heap.size + 1, 0, none⟩) n n] wr) (fun c _ => n - (intOf c).toNat)
  case atStart => exact ⟨0, by omega, rfl, NewRel.start w n _⟩
  case round =>
    obtain ⟨k, hk, rfl, hr⟩ := hrel
    by_cases hlt : k < n
    · obtain ⟨v, hv⟩ := hr.cell hlt
      have hnext := hr.step hlt
      obtain ⟨cs, B1, z1, _, B2, B3, _, _, hbw⟩ := hr
      have f1 := B1.frozen k
      have p2 := B2.cell 2
      simp only [List.getElem?_toArray, List.getElem?_cons_succ, List.getElem?_cons_zero] at p2
      clear B1 B2 B3 z1
      go_wp2_with fail
      go_roundw
      case rel => exact ⟨k + 1, by omega, by go_num, hnext⟩
      case measure => simp [intOf]; omega
    · obtain rfl : k = n := by omega
      obtain ⟨cs, B1, z1, hcs, B2, B3, hrg, hr0, hbw⟩ := hr
      have p0 := B2.cell 0
      have p1 := B2.cell 1
      have p2 := B2.cell 2
      have r0 := B3.cell 0
      have r1 := B3.cell 1
      have r2 := B3.cell 2
      have q0 := B3.frozen 0
      have q1 := B3.frozen 1
      have q2 := B3.frozen 2
      simp only [List.getElem?_toArray, List.getElem?_cons_succ, List.getElem?_cons_zero] at p0 p1 p2 r0 r1 r2
      go_wp2_with fail
      have K := (((B3.set_ 0 (.int .i64 V)).set_ 1 (.int .i64 G)).set_ 2 (.slice (some ⟨w.heap.size + 1, 0, none⟩) k k))
      refine ret_struct2 (g := w.heap.size) (t := 46) (cs := #[.int .i64 V, .int .i64 G, .slice (some ⟨w.heap.size + 1, 0, none⟩) k k]) rfl rfl ?_ Try.underlying46 rfl rfl rfl ?_
      · first | exact K | exact K.drew
      · refine ⟨_, _, _, rfl, ?_, by (repeat' (first | exact hbw | exact Below.refl _ _ | refine balloc ?_ _ | refine Below.drew ?_ | refine below_drewN ?_ _ | refine bset ?_ (by first | omega | (simp <;> omega)) _))⟩
        refine Bytes.of_blk (((B1.far ?_ _).far ?_ _).far ?_ _) (by simp) (Nat.le_refl _) (fun j hj => ?_)
        · simp
        · simp
        · simp
        · rw [hcs j (by simpa using hj)]; simp
end Go.Proofs.Ytegpjjkbbdfggaa.ik
