/-
  Layer 30: the contracts of Has, Count, May, Shift, Norm, Not. (PRUNE)
-/
import Derived.Test.YtegpjjkbbdfggaaBeside
namespace Go.Proofs.Ytegpjjkbbdfggaa.sp
set_option linter.unusedVariables false
set_option linter.unusedSimpArgs false
open Go.RowKit bs

theorem row_index (S : Nat → Bool) (i : Nat) (h : i < 64) (W : World) : (Instr.index 149 (.agg (rowC S)) (.int .i64 (i : Int))).run Try.prog W = .ok (.bool (S i)) W := by
  have hb : (isAgg 4).run Try.prog W = .ok false W := by kernel_rfl
  have hs : (sizeOf 4).run Try.prog W = .ok 1 W := by kernel_rfl
  have hc := rowC_get S i h
  simp [Instr.index, asIntOf, run_underlying Try.underlying149, part, hb, hs, hc, h]

def hasB (l : List (Int × Int)) (i : Int) : Bool := decide (0 ≤ i) && decide (i < 64) && inRuns l i.toNat

/-- how many of the places below k there are -/
def cnt (S : Nat → Bool) : Nat → Nat
  | 0 => 0
  | k + 1 => cnt S k + (if S k then 1 else 0)
theorem cnt_le (S : Nat → Bool) (k : Nat) : cnt S k ≤ k := by
  induction k with
  | zero => exact Nat.le_refl _
  | succ k ih => unfold cnt; split <;> omega
theorem cnt_yes {S : Nat → Bool} {k : Nat} (h : S k = true) : cnt S (k + 1) = cnt S k + 1 := by simp [cnt, h]
theorem cnt_no {S : Nat → Bool} {k : Nat} (h : S k = false) : cnt S (k + 1) = cnt S k := by simp [cnt, h]

set_option maxHeartbeats 800000 in
theorem count_any (A : Option Addr) (n c : Nat) (l : List (Int × Int)) (w : World) (hr : Runs w A n c l) (hn : n ≤ 9223372036854775807) :
    Calls Try.prog 99 #[.slice A n c] w fun e w' => e = .returned (.int .i64 (cnt (inRuns l) 64)) ∧ Below w.heap.size w w' := by
  go_enter Try.func99, Try.ntmps99
  go_wp2_with fail
  refine (of_any A n c l _ hr hn).mono ?_
  rintro e w1 ⟨rfl, hb1⟩
  go_wp2_with fail
  go_loop [3, 8] (fun nv kv => ∃ k v : Nat, k ≤ 64 ∧ v ≤ k ∧ kv = .int .i64 k ∧ nv = .int .i64 v ∧ Hid (v = cnt (inRuns l) k)) (fun _ kv => 64 - (intOf kv).toNat)
  case atStart => exact ⟨0, 0, by omega, by omega, rfl, rfl, rfl⟩
  case round =>
    obtain ⟨k, v, hk, hvk, rfl, rfl, hv⟩ := hrel
    by_cases hlt : k < 64
    · have hidx := row_index (inRuns l) k hlt
      cases hS : inRuns l k with
      | false =>
        have hnext : Hid (v = cnt (inRuns l) (k + 1)) := (by rw [cnt_no hS]; exact hv.out : v = cnt (inRuns l) (k + 1))
        rw [hS] at hidx
        clear hS
        go_wp2_with fail
        go_round
        case rel => exact ⟨k + 1, v, by omega, by omega, by go_num, rfl, hnext⟩
        case measure => simp [intOf]; omega
      | true =>
        have hnext : Hid (v + 1 = cnt (inRuns l) (k + 1)) := (by rw [cnt_yes hS]; have := hv.out; omega : v + 1 = cnt (inRuns l) (k + 1))
        rw [hS] at hidx
        clear hS
        go_wp2_with fail
        go_round
        case rel => exact ⟨k + 1, v + 1, by omega, by omega, by go_num, by go_num, hnext⟩
        case measure => simp [intOf]; omega
    · obtain rfl : k = 64 := by omega
      go_wp2_with fail
      go_ret
      exact ⟨ret_int (by rw [hv.out]), hb1⟩

def mayB (l : List (Int × Int)) (w : Int) : Bool := decide (0 ≤ w) && decide (w ≤ 64) && mayFrom w (-1) l

theorem mayFrom_split (w last : Int) (l : List (Int × Int)) (k : Nat) (h : k < l.length) : mayFrom w (lastTo last (l.take k)) (l.drop k) =
    (decide (lastTo last (l.take k) < l[k].1 ∧ l[k].1 < l[k].2 ∧ l[k].2 ≤ w) && mayFrom w (lastTo last (l.take (k + 1))) (l.drop (k + 1))) := by
  rw [List.drop_eq_getElem_cons h, List.take_succ_eq_append_getElem h, lastTo_append]
  rfl

set_option maxRecDepth 100000 in
set_option maxHeartbeats 800000 in
theorem may_any (A : Option Addr) (n c : Nat) (l : List (Int × Int)) (x : Int) (w : World) (hr : Runs w A n c l) (hn : n ≤ 9223372036854775807) :
    Calls Try.prog 112 #[.slice A n c, .int .i64 x] w fun e w' => e = .returned (.bool (mayB l x)) ∧ Below w.heap.size w w' := by
  by_cases hx : 0 ≤ x ∧ x ≤ 64
  · obtain ⟨x0, x1⟩ := hx
    have he : mayB l x = mayFrom x (lastTo (-1) (l.take 0)) (l.drop 0) := by unfold mayB; simp [x0, x1, lastTo]
    have d1 : decide (x < 0) = false := by simp; omega
    have d2 : decide (64 < x) = false := by simp; omega
    have HE := Lib.hid he
    clear he
    go_enter Try.func112, Try.ntmps112
    go_wp2_with fail
    go_loopw [5, 16] (fun lv kv wr => ∃ (k : Nat) (last : Int), k ≤ n ∧ kv = .int .i64 k ∧ lv = .int .i64 last ∧ Hid (last = lastTo (-1) (l.take k)) ∧ Hid (mayB l x = mayFrom x (lastTo (-1) (l.take k)) (l.drop k)) ∧ Below w.heap.size w wr) (fun _ kv _ => n - (intOf kv).toNat)
    case atStart => exact ⟨0, -1, by omega, rfl, rfl, rfl, HE, Below.refl _ _⟩
    case round =>
      obtain ⟨k, last, hk, rfl, rfl, hla, hma, hbw⟩ := hrel
      have hlen := hr.1
      by_cases hlt : k < n
      · obtain ⟨hl, hnc, hcell⟩ := hr.below hbw
        obtain ⟨b, o, rfl, hb, hcell⟩ := hcell (by omega)
        obtain ⟨c1, c2⟩ := hcell k (by omega)
        have hsp := mayFrom_split x (-1) l k (by omega)
        have hnl : lastTo (-1) (l.take (k + 1)) = l[k].2 := by rw [List.take_succ_eq_append_getElem (by omega), lastTo_append]
        rw [← hma.out, ← hla.out] at hsp
        generalize l[k].1 = p at *
        generalize l[k].2 = q at *
        have HSP := Lib.hid hsp
        have HNL := Lib.hid hnl
        clear hsp hnl hcell hl hlen
        by_cases h1 : last < p
        · by_cases h2 : p < q
          · by_cases h3 : q ≤ x
            · go_wp2_with fail
              go_roundw
              case rel => exact ⟨k + 1, q, by omega, by go_num, rfl, HNL.out.symm, (by rw [HSP.out]; simp [h1, h2, h3] : mayB l x = _), by (repeat' (first | exact hbw | exact Below.refl _ _ | refine balloc ?_ _ | refine Below.drew ?_ | refine below_drewN ?_ _ | refine bset ?_ (by first | omega | (simp <;> omega)) _))⟩
              case measure => simp [intOf]; omega
            · have hf : mayB l x = false := by rw [HSP.out]; simp; omega
              rw [hf]
              go_wp2_with fail
              go_ret
              exact ⟨rfl, by (repeat' (first | exact hbw | exact Below.refl _ _ | refine balloc ?_ _ | refine Below.drew ?_ | refine below_drewN ?_ _ | refine bset ?_ (by first | omega | (simp <;> omega)) _))⟩
          · have hf : mayB l x = false := by rw [HSP.out]; simp; omega
            rw [hf]
            go_wp2_with fail
            go_ret
            exact ⟨rfl, by (repeat' (first | exact hbw | exact Below.refl _ _ | refine balloc ?_ _ | refine Below.drew ?_ | refine below_drewN ?_ _ | refine bset ?_ (by first | omega | (simp <;> omega)) _))⟩
        · have hf : mayB l x = false := by rw [HSP.out]; simp; omega
          rw [hf]
          go_wp2_with fail
          go_ret
          exact ⟨rfl, by (repeat' (first | exact hbw | exact Below.refl _ _ | refine balloc ?_ _ | refine Below.drew ?_ | refine below_drewN ?_ _ | refine bset ?_ (by first | omega | (simp <;> omega)) _))⟩
      · obtain rfl : k = n := by omega
        have ht : mayB l x = true := by rw [hma.out, List.drop_eq_nil_of_le (by omega)]; rfl
        have HT := Lib.hid ht
        clear hlen ht
        go_wp2_with fail
        go_ret
        exact ⟨ret_bool HT.out.symm, hbw⟩
  · have he : mayB l x = false := by unfold mayB; simp; omega
    rw [he]
    clear he
    by_cases h0 : x < 0
    · go_enter Try.func112, Try.ntmps112
      go_wp2_with fail
      go_ret
      exact ⟨rfl, Below.refl _ _⟩
    · go_enter Try.func112, Try.ntmps112
      go_wp2_with fail
      go_ret
      exact ⟨rfl, Below.refl _ _⟩
end Go.Proofs.Ytegpjjkbbdfggaa.sp
