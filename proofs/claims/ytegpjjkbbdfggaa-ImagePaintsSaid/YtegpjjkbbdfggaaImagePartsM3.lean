/-
  Lemmas for ImageParts: Beside, Span2, Span3, Reg, Blend, Ink, RegMay, Each, Page, RegMade, RegOps, RegOps2, MaskOf, SameP, Put1, Put, Unlike.
-/
import Derived.StillTailTactics
import Derived.BigRegion
import Derived.Deep.RegionHeld3
import Derived.BigQuiet
import Derived.Deep.CutRange
import Derived.Test.YtegpjjkbbdfggaaImagePartsM2

/-
  Layer 30: the contracts of beside, both, and of Join, Meet, Less, Other, Not. (PRUNE)
-/
namespace Go.Proofs.Ytegpjjkbbdfggaa.sp
set_option linter.unusedVariables false
set_option linter.unusedSimpArgs false
open Go.RowKit bs

def BesRel (W : World) (S T : Nat → Bool) (h : Bool → Bool → Bool) (k : Nat) (wr : World) : Prop :=
  Blk wr W.heap.size 113 (rowC S) ∧ Blk wr (W.heap.size + 1) 113 (rowC T) ∧ Blk wr (W.heap.size + 2) 113 (rowC fun _ => false) ∧
    Blk wr (W.heap.size + 3) 113 (rowC fun j => decide (j < k) && h (S j) (T j)) ∧ Below W.heap.size W wr
theorem BesRel.start (w : World) (S T : Nat → Bool) (h : Bool → Bool → Bool) : BesRel w S T h 0
    ((((w.alloc (.cells (rowC S) 113)).alloc (.cells (rowC T) 113)).alloc (.cells (Array.replicate 64 (.bool false)) 113)).alloc (.cells (Array.replicate 64 (.bool false)) 113)) := by
  have b0 := Blk.new w 113 (rowC S)
  have b1 := Blk.new (w.alloc (.cells (rowC S) 113)) 113 (rowC T)
  have b2 := Blk.new ((w.alloc (.cells (rowC S) 113)).alloc (.cells (rowC T) 113)) 113 (Array.replicate 64 (.bool false))
  have b3 := Blk.new (((w.alloc (.cells (rowC S) 113)).alloc (.cells (rowC T) 113)).alloc (.cells (Array.replicate 64 (.bool false)) 113)) 113 (Array.replicate 64 (.bool false))
  have s1 : ∀ (u : World) (o : Obj), (u.alloc o).heap.size = u.heap.size + 1 := fun u o => by simp
  simp only [s1] at b1 b2 b3
  refine ⟨((b0.alloc _).alloc _).alloc _, (b1.alloc _).alloc _, ?_, ?_, by (repeat' (first | exact Below.refl _ _ | exact Below.refl _ _ | refine balloc ?_ _ | refine Below.drew ?_ | refine below_drewN ?_ _ | refine bset ?_ (by first | omega | (simp <;> omega)) _))⟩
  · have := b2.alloc (.cells (Array.replicate 64 (.bool false)) 113)
    rw [rowC_zero] at this ⊢; exact this
  · have e : rowC (fun j => decide (j < 0) && h (S j) (T j)) = rowC fun _ => false := rowC_ext fun i _ => by simp
    rw [e]
    rw [rowC_zero] at b3 ⊢; exact b3
theorem BesRel.step {W wr : World} {S T : Nat → Bool} {h : Bool → Bool → Bool} {k : Nat} (hr : BesRel W S T h k wr) (hk : k < 64) :
    BesRel W S T h (k + 1) (wr.setCell ⟨W.heap.size + 3, k, none⟩ (.bool (h (S k) (T k)))) := by
  obtain ⟨h0, h1, h2, h3, hb⟩ := hr
  refine ⟨h0.far (by simp) _, h1.far (by simp) _, h2.far (by simp) _, ?_, bset hb (by simp) _⟩
  have := h3.set_ k (.bool (h (S k) (T k)))
  rw [rowC_set _ k hk] at this
  have e : rowC (fun j => if j = k then h (S k) (T k) else decide (j < k) && h (S j) (T j)) = rowC (fun j => decide (j < k + 1) && h (S j) (T j)) := rowC_ext fun i _ => by
    by_cases e : i = k
    · subst e; simp
    · rw [if_neg e]
      congr 1
      simp; omega
  rw [e] at this
  exact this
theorem BesRel.drew {W wr : World} {S T : Nat → Bool} {h : Bool → Bool → Bool} {k : Nat} (hr : BesRel W S T h k wr) : BesRel W S T h k wr.drew :=
  ⟨hr.1.drew, hr.2.1.drew, hr.2.2.1.drew, hr.2.2.2.1.drew, hr.2.2.2.2.drew⟩

set_option maxRecDepth 100000 in
set_option maxHeartbeats 800000 in
theorem beside_any (S T : Nat → Bool) (f : FuncId) (h : Bool → Bool → Bool) (hcf : ∀ (args : Array Value) (W : World), (callFunc f args).run Try.prog W = .ok (.enter f args) W) (hf : ∀ (x y : Bool) (W : World), Calls Try.prog f #[.bool x, .bool y] W fun e w' => e = .returned (.bool (h x y)) ∧ w' = W) (w : World) :
    Calls Try.prog 129 #[.agg (rowC S), .agg (rowC T), .func (.func f) #[] #[]] w fun e w' => e = .returned (.agg (rowC fun i => h (S i) (T i))) ∧ Below w.heap.size w w' := by
  have HF := Lib.hid hf
  clear hf
  go_enter Try.func129, Try.ntmps129
  go_wp2_with fail
  go_loopw [9] (fun kv wr => ∃ k : Nat, k ≤ 64 ∧ kv = .int .i64 k ∧ BesRel w S T h k wr) (fun kv _ => 64 - (intOf kv).toNat)
  case atStart => exact ⟨0, by omega, rfl, BesRel.start w S T h⟩
  case round =>
    obtain ⟨k, hk, rfl, hR⟩ := hrel
    by_cases hlt : k < 64
    · have c0 : wr.cell? ⟨w.heap.size, k, none⟩ = some (.bool (S k)) := by rw [hR.1.cell, rowC_get S k hlt]
      have c1 : wr.cell? ⟨w.heap.size + 1, k, none⟩ = some (.bool (T k)) := by rw [hR.2.1.cell, rowC_get T k hlt]
      have c2 : ∃ v, wr.cell? ⟨w.heap.size + 3, k, none⟩ = some v := ⟨_, by rw [hR.2.2.2.1.cell, rowC_get _ k hlt]⟩
      obtain ⟨v, c2⟩ := c2
      have c3 := hR.2.2.2.1.frozen k
      have hnext := hR.drew.step hlt
      go_wp2_with fail
      refine wp_region_still_tail 10 (by kernel_rfl) (by kernel_rfl) ?_
      simp only [List.take_succ_cons, List.take_zero, List.drop_succ_cons, List.drop_zero]
      repeat still_step
      still_call (HF.out _ _ _)
      repeat still_step
      refine wpStill_nil ?_
      change wpList _ _ _ _ _ wr.drew
      go_wp2_with fail
      go_roundw
      case rel => exact ⟨k + 1, by omega, by go_num, hnext⟩
      case measure => simp [intOf]; omega
    · obtain rfl : k = 64 := by omega
      obtain ⟨h0, h1, h2, h3, hb⟩ := hR
      have e : rowC (fun j => decide (j < 64) && h (S j) (T j)) = rowC fun i => h (S i) (T i) := rowC_ext fun i hi => by simp [hi]
      rw [e] at h3
      go_wp2_with (first
        | (refine wpList_load_row rfl 113 (.tmp 7) rfl _ rfl _ _ _ _ h3 Try.underlying113 rfl (by rw [rowC_size]; kernel_rfl) ?_)
        | (refine wpList_store_row rfl 113 (.tmp 6) (.tmp 23) rfl _ (rowC fun i => h (S i) (T i)) rfl rfl _ _ h2 (by rw [rowC_size]; kernel_rfl) (by rw [rowC_size, rowC_size]) (rowC_one _) ?_))
      exact ret_struct1 rfl rfl (h2.row _) Try.underlying113 rfl (by rw [rowC_size]; kernel_rfl) rfl ⟨rfl, brow hb (by omega) _⟩

theorem less1 (x y : Bool) (W : World) : Calls Try.prog 122 #[.bool x, .bool y] W fun e w' => e = .returned (.bool (x && !y)) ∧ w' = W := by
  cases x <;> cases y <;> (go_enter Try.func122, Try.ntmps122; go_wp2_with fail; go_ret; exact ⟨rfl, rfl⟩)
/-- what is made of two lists of runs, place by place -/
def two (h : Bool → Bool → Bool) (l m : List (Int × Int)) : List (Int × Int) := rl (fun i => h (inRuns l i) (inRuns m i)) 64

theorem both_any (A B : Option Addr) (n c m d : Nat) (l k : List (Int × Int)) (f : FuncId) (h : Bool → Bool → Bool) (hcf : ∀ (args : Array Value) (W : World), (callFunc f args).run Try.prog W = .ok (.enter f args) W) (hf : ∀ (x y : Bool) (W : World), Calls Try.prog f #[.bool x, .bool y] W fun e w' => e = .returned (.bool (h x y)) ∧ w' = W)
    (w : World) (hl : Runs w A n c l) (hk : Runs w B m d k) (hn : n ≤ 9223372036854775807) (hm : m ≤ 9223372036854775807) :
    Calls Try.prog 121 #[.slice A n c, .slice B m d, .func (.func f) #[] #[]] w fun e w' => ∃ A' c', e = .returned (.slice A' (two h l k).length c') ∧ Runs w' A' (two h l k).length c' (two h l k) ∧ Below w.heap.size w w' := by
  have HF := Lib.hid hf
  clear hf
  go_enter Try.func121, Try.ntmps121
  go_wp2_with fail
  refine (of_any A n c l _ hl hn).mono ?_
  rintro e w1 ⟨rfl, hb1⟩
  go_wp2_with fail
  refine (of_any B m d k _ (hk.below hb1) hm).mono ?_
  rintro e w2 ⟨rfl, hb2⟩
  go_wp2_with fail
  refine (beside_any _ _ f h hcf HF.out _).mono ?_
  rintro e w3 ⟨rfl, hb3⟩
  go_wp2_with fail
  refine (runs_any _ _).mono ?_
  rintro e w4 ⟨A', c', rfl, hr, hb4⟩
  go_wp2_with fail
  go_ret
  exact ⟨A', c', rfl, hr, btrans (btrans (btrans hb1 hb2) hb3) hb4⟩

theorem less_any (A B : Option Addr) (n c m d : Nat) (l k : List (Int × Int)) (w : World) (hl : Runs w A n c l) (hk : Runs w B m d k) (hn : n ≤ 9223372036854775807) (hm : m ≤ 9223372036854775807) :
    Calls Try.prog 98 #[.slice A n c, .slice B m d] w fun e w' => ∃ A' c', e = .returned (.slice A' (two (fun x y => x && !y) l k).length c') ∧ Runs w' A' (two (fun x y => x && !y) l k).length c' (two (fun x y => x && !y) l k) ∧ Below w.heap.size w w' := by
  have hcf : ∀ (args : Array Value) (W : World), (callFunc 122 args).run Try.prog W = .ok (.enter 122 args) W := fun args W => by kernel_rfl
  go_enter Try.func98, Try.ntmps98
  go_wp2_with fail
  refine (both_any A B n c m d l k _ (fun x y => x && !y) hcf less1 w hl hk hn hm).mono ?_
  rintro e w1 ⟨A', c', rfl, hr, hb1⟩
  go_wp2_with fail
  go_ret
  exact ⟨A', c', rfl, hr, hb1⟩

end Go.Proofs.Ytegpjjkbbdfggaa.sp

/-
  Layer 30: the contracts of Has, Count, May, Shift, Norm, Not. (PRUNE)
-/
namespace Go.Proofs.Ytegpjjkbbdfggaa.sp
set_option linter.unusedVariables false
set_option linter.unusedSimpArgs false
open Go.RowKit bs

theorem row_index (S : Nat → Bool) (i : Nat) (h : i < 64) (W : World) : (Instr.index 149 (.agg (rowC S)) (.int .i64 (i : Int))).run Try.prog W = .ok (.bool (S i)) W := by
  have hb : (isAgg 4).run Try.prog W = .ok false W := by kernel_rfl
  have hs : (sizeOf 4).run Try.prog W = .ok 1 W := by kernel_rfl
  have hc := rowC_get S i h
  simp [Instr.index, asIntOf, run_underlying Try.underlying149, part, hb, hs, hc, h]

def hasB (l : List (Int × Int)) (i : Int) : Bool := decide (0 ≤ i) && decide (i < 64) && inRuns l i.toNat

/-- how many of the places below k there are -/
def cnt (S : Nat → Bool) : Nat → Nat
  | 0 => 0
  | k + 1 => cnt S k + (if S k then 1 else 0)
theorem cnt_le (S : Nat → Bool) (k : Nat) : cnt S k ≤ k := by
  induction k with
  | zero => exact Nat.le_refl _
  | succ k ih => unfold cnt; split <;> omega
theorem cnt_yes {S : Nat → Bool} {k : Nat} (h : S k = true) : cnt S (k + 1) = cnt S k + 1 := by simp [cnt, h]
theorem cnt_no {S : Nat → Bool} {k : Nat} (h : S k = false) : cnt S (k + 1) = cnt S k := by simp [cnt, h]

set_option maxHeartbeats 800000 in
theorem count_any (A : Option Addr) (n c : Nat) (l : List (Int × Int)) (w : World) (hr : Runs w A n c l) (hn : n ≤ 9223372036854775807) :
    Calls Try.prog 99 #[.slice A n c] w fun e w' => e = .returned (.int .i64 (cnt (inRuns l) 64)) ∧ Below w.heap.size w w' := by
  go_enter Try.func99, Try.ntmps99
  go_wp2_with fail
  refine (of_any A n c l _ hr hn).mono ?_
  rintro e w1 ⟨rfl, hb1⟩
  go_wp2_with fail
  go_loop [3, 8] (fun nv kv => ∃ k v : Nat, k ≤ 64 ∧ v ≤ k ∧ kv = .int .i64 k ∧ nv = .int .i64 v ∧ Hid (v = cnt (inRuns l) k)) (fun _ kv => 64 - (intOf kv).toNat)
  case atStart => exact ⟨0, 0, by omega, by omega, rfl, rfl, rfl⟩
  case round =>
    obtain ⟨k, v, hk, hvk, rfl, rfl, hv⟩ := hrel
    by_cases hlt : k < 64
    · have hidx := row_index (inRuns l) k hlt
      cases hS : inRuns l k with
      | false =>
        have hnext : Hid (v = cnt (inRuns l) (k + 1)) := (by rw [cnt_no hS]; exact hv.out : v = cnt (inRuns l) (k + 1))
        rw [hS] at hidx
        clear hS
        go_wp2_with fail
        go_round
        case rel => exact ⟨k + 1, v, by omega, by omega, by go_num, rfl, hnext⟩
        case measure => simp [intOf]; omega
      | true =>
        have hnext : Hid (v + 1 = cnt (inRuns l) (k + 1)) := (by rw [cnt_yes hS]; have := hv.out; omega : v + 1 = cnt (inRuns l) (k + 1))
        rw [hS] at hidx
        clear hS
        go_wp2_with fail
        go_round
        case rel => exact ⟨k + 1, v + 1, by omega, by omega, by go_num, by go_num, hnext⟩
        case measure => simp [intOf]; omega
    · obtain rfl : k = 64 := by omega
      go_wp2_with fail
      go_ret
      exact ⟨ret_int (by rw [hv.out]), hb1⟩

def mayB (l : List (Int × Int)) (w : Int) : Bool := decide (0 ≤ w) && decide (w ≤ 64) && mayFrom w (-1) l

theorem mayFrom_split (w last : Int) (l : List (Int × Int)) (k : Nat) (h : k < l.length) : mayFrom w (lastTo last (l.take k)) (l.drop k) =
    (decide (lastTo last (l.take k) < l[k].1 ∧ l[k].1 < l[k].2 ∧ l[k].2 ≤ w) && mayFrom w (lastTo last (l.take (k + 1))) (l.drop (k + 1))) := by
  rw [List.drop_eq_getElem_cons h, List.take_succ_eq_append_getElem h, lastTo_append]
  rfl

set_option maxRecDepth 100000 in
set_option maxHeartbeats 800000 in
theorem may_any (A : Option Addr) (n c : Nat) (l : List (Int × Int)) (x : Int) (w : World) (hr : Runs w A n c l) (hn : n ≤ 9223372036854775807) :
    Calls Try.prog 112 #[.slice A n c, .int .i64 x] w fun e w' => e = .returned (.bool (mayB l x)) ∧ Below w.heap.size w w' := by
  by_cases hx : 0 ≤ x ∧ x ≤ 64
  · obtain ⟨x0, x1⟩ := hx
    have he : mayB l x = mayFrom x (lastTo (-1) (l.take 0)) (l.drop 0) := by unfold mayB; simp [x0, x1, lastTo]
    have d1 : decide (x < 0) = false := by simp; omega
    have d2 : decide (64 < x) = false := by simp; omega
    have HE := Lib.hid he
    clear he
    go_enter Try.func112, Try.ntmps112
    go_wp2_with fail
    go_loopw [5, 16] (fun lv kv wr => ∃ (k : Nat) (last : Int), k ≤ n ∧ kv = .int .i64 k ∧ lv = .int .i64 last ∧ Hid (last = lastTo (-1) (l.take k)) ∧ Hid (mayB l x = mayFrom x (lastTo (-1) (l.take k)) (l.drop k)) ∧ Below w.heap.size w wr) (fun _ kv _ => n - (intOf kv).toNat)
    case atStart => exact ⟨0, -1, by omega, rfl, rfl, rfl, HE, Below.refl _ _⟩
    case round =>
      obtain ⟨k, last, hk, rfl, rfl, hla, hma, hbw⟩ := hrel
      have hlen := hr.1
      by_cases hlt : k < n
      · obtain ⟨hl, hnc, hcell⟩ := hr.below hbw
        obtain ⟨b, o, rfl, hb, hcell⟩ := hcell (by omega)
        obtain ⟨c1, c2⟩ := hcell k (by omega)
        have hsp := mayFrom_split x (-1) l k (by omega)
        have hnl : lastTo (-1) (l.take (k + 1)) = l[k].2 := by rw [List.take_succ_eq_append_getElem (by omega), lastTo_append]
        rw [← hma.out, ← hla.out] at hsp
        generalize l[k].1 = p at *
        generalize l[k].2 = q at *
        have HSP := Lib.hid hsp
        have HNL := Lib.hid hnl
        clear hsp hnl hcell hl hlen
        by_cases h1 : last < p
        · by_cases h2 : p < q
          · by_cases h3 : q ≤ x
            · go_wp2_with fail
              go_roundw
              case rel => exact ⟨k + 1, q, by omega, by go_num, rfl, HNL.out.symm, (by rw [HSP.out]; simp [h1, h2, h3] : mayB l x = _), by (repeat' (first | exact hbw | exact Below.refl _ _ | refine balloc ?_ _ | refine Below.drew ?_ | refine below_drewN ?_ _ | refine bset ?_ (by first | omega | (simp <;> omega)) _))⟩
              case measure => simp [intOf]; omega
            · have hf : mayB l x = false := by rw [HSP.out]; simp; omega
              rw [hf]
              go_wp2_with fail
              go_ret
              exact ⟨rfl, by (repeat' (first | exact hbw | exact Below.refl _ _ | refine balloc ?_ _ | refine Below.drew ?_ | refine below_drewN ?_ _ | refine bset ?_ (by first | omega | (simp <;> omega)) _))⟩
          · have hf : mayB l x = false := by rw [HSP.out]; simp; omega
            rw [hf]
            go_wp2_with fail
            go_ret
            exact ⟨rfl, by (repeat' (first | exact hbw | exact Below.refl _ _ | refine balloc ?_ _ | refine Below.drew ?_ | refine below_drewN ?_ _ | refine bset ?_ (by first | omega | (simp <;> omega)) _))⟩
        · have hf : mayB l x = false := by rw [HSP.out]; simp; omega
          rw [hf]
          go_wp2_with fail
          go_ret
          exact ⟨rfl, by (repeat' (first | exact hbw | exact Below.refl _ _ | refine balloc ?_ _ | refine Below.drew ?_ | refine below_drewN ?_ _ | refine bset ?_ (by first | omega | (simp <;> omega)) _))⟩
      · obtain rfl : k = n := by omega
        have ht : mayB l x = true := by rw [hma.out, List.drop_eq_nil_of_le (by omega)]; rfl
        have HT := Lib.hid ht
        clear hlen ht
        go_wp2_with fail
        go_ret
        exact ⟨ret_bool HT.out.symm, hbw⟩
  · have he : mayB l x = false := by unfold mayB; simp; omega
    rw [he]
    clear he
    by_cases h0 : x < 0
    · go_enter Try.func112, Try.ntmps112
      go_wp2_with fail
      go_ret
      exact ⟨rfl, Below.refl _ _⟩
    · go_enter Try.func112, Try.ntmps112
      go_wp2_with fail
      go_ret
      exact ⟨rfl, Below.refl _ _⟩
end Go.Proofs.Ytegpjjkbbdfggaa.sp

/-
  Layer 30: the contracts of Shift, Norm, Not. (PRUNE)
-/
namespace Go.Proofs.Ytegpjjkbbdfggaa.sp
set_option linter.unusedVariables false
set_option linter.unusedSimpArgs false
open Go.RowKit bs

/-- the places moved by b, those below m alone -/
def moved (l : List (Int × Int)) (b m : Int) (t : Nat) : Bool := decide (0 ≤ (t : Int) - b) && decide ((t : Int) - b < 64) && inRuns l ((t : Int) - b).toNat && decide ((t : Int) < m)
def shift (l : List (Int × Int)) (b x : Int) : List (Int × Int) := if -64 < b ∧ b < 64 then rl (moved l b (max 0 (min x 64))) 64 else []
theorem rl_none : ∀ k, rl (fun _ => false) k = []
  | 0 => rfl
  | k + 1 => by rw [rl_no rfl]; exact rl_none k

/-- in the middle of a shift: what came of the places below k -/
def ShRel (W : World) (l : List (Int × Int)) (b m : Int) (p q k : Nat) (wr : World) : Prop :=
  Blk wr p 149 (rowC (inRuns l)) ∧ Blk wr q 149 (rowC fun t => moved l b m t && decide ((t : Int) - b < k)) ∧ W.heap.size ≤ p ∧ p < q ∧ Below W.heap.size W wr
theorem second_zero (w1 : World) (cs : Array Value) : Blk (((w1.alloc (.cells (Array.replicate 64 (.bool false)) 149)).setRow w1.heap.size cs).alloc (.cells (Array.replicate 64 (.bool false)) 149)) (w1.heap.size + 1) 149 (rowC fun _ => false) := by
  have K2 := Blk.new ((w1.alloc (.cells (Array.replicate 64 (.bool false)) 149)).setRow w1.heap.size cs) 149 (Array.replicate 64 (.bool false))
  have s1 : ((w1.alloc (.cells (Array.replicate 64 (.bool false)) 149)).setRow w1.heap.size cs).heap.size = w1.heap.size + 1 := by simp
  rw [s1] at K2
  rw [← rowC_zero]
  exact K2
theorem ShRel.start {W w1 : World} {l : List (Int × Int)} {b m : Int} (hb : Below W.heap.size W w1) :
    ShRel W l b m w1.heap.size (w1.heap.size + 1) 0 (((w1.alloc (.cells (Array.replicate 64 (.bool false)) 149)).setRow w1.heap.size (rowC (inRuns l))).alloc (.cells (Array.replicate 64 (.bool false)) 149)) := by
  have K1 := (Blk.new w1 149 (Array.replicate 64 (.bool false))).row (rowC (inRuns l))
  have K2 := Blk.new ((w1.alloc (.cells (Array.replicate 64 (.bool false)) 149)).setRow w1.heap.size (rowC (inRuns l))) 149 (Array.replicate 64 (.bool false))
  have s1 : ((w1.alloc (.cells (Array.replicate 64 (.bool false)) 149)).setRow w1.heap.size (rowC (inRuns l))).heap.size = w1.heap.size + 1 := by simp
  rw [s1] at K2
  refine ⟨K1.alloc _, ?_, hb.size, by omega, balloc (brow (balloc hb _) hb.size _) _⟩
  have e : rowC (fun t => moved l b m t && decide ((t : Int) - b < (0 : Nat))) = rowC fun _ => false := rowC_ext fun t _ => by
    unfold moved
    by_cases h : 0 ≤ (t : Int) - b
    · simp; intros; omega
    · simp; intros; omega
  rw [e, ← rowC_zero]
  exact K2
theorem ShRel.skip {W wr : World} {l : List (Int × Int)} {b m : Int} {p q k : Nat} (h : ShRel W l b m p q k wr) (hno : ∀ t : Nat, t < 64 → (t : Int) = k + b → moved l b m t = false) : ShRel W l b m p q (k + 1) wr := by
  obtain ⟨h1, h2, h3⟩ := h
  refine ⟨h1, ?_, h3⟩
  have e : rowC (fun t => moved l b m t && decide ((t : Int) - b < k)) = rowC (fun t => moved l b m t && decide ((t : Int) - b < (k + 1 : Nat))) := rowC_ext fun t ht => by
    by_cases ht2 : (t : Int) = k + b
    · rw [hno t ht ht2]; rfl
    · congr 1
      simp; omega
  rwa [← e]
theorem ShRel.put {W wr : World} {l : List (Int × Int)} {b m : Int} {p q k t : Nat} (h : ShRel W l b m p q k wr) (ht : (t : Int) = k + b) (ht64 : t < 64) (hm : moved l b m t = true) :
    ShRel W l b m p q (k + 1) (wr.setCell ⟨q, t, none⟩ (.bool true)) := by
  obtain ⟨h1, h2, h3, h4, h5⟩ := h
  refine ⟨h1.far (by show p ≠ q; omega) _, ?_, h3, h4, bset h5 (by show W.heap.size ≤ q; omega) _⟩
  have := h2.set_ t (.bool true)
  rw [rowC_set _ t ht64] at this
  have e : rowC (fun j => if j = t then true else moved l b m j && decide ((j : Int) - b < k)) = rowC (fun t => moved l b m t && decide ((t : Int) - b < (k + 1 : Nat))) := rowC_ext fun j hj => by
    by_cases e : j = t
    · subst e; rw [if_pos rfl, hm]; simp; omega
    · rw [if_neg e]
      congr 1
      simp; omega
  rwa [e] at this

set_option maxRecDepth 100000 in
set_option maxHeartbeats 1600000 in
theorem shift_any (A : Option Addr) (n c : Nat) (l : List (Int × Int)) (b x : Int) (w : World) (hr : Runs w A n c l) (hn : n ≤ 9223372036854775807) :
    Calls Try.prog 131 #[.slice A n c, .int .i64 b, .int .i64 x] w fun e w' => ∃ A' c', e = .returned (.slice A' (shift l b x).length c') ∧ Runs w' A' (shift l b x).length c' (shift l b x) ∧ Below w.heap.size w w' := by
  by_cases hb : -64 < b ∧ b < 64
  · have he : shift l b x = rl (moved l b (max 0 (min x 64))) 64 := by unfold shift; rw [if_pos hb]
    rw [he]
    clear he
    obtain ⟨b0, b1⟩ := hb
    obtain ⟨m, hm, m0, m1⟩ : ∃ m, max 0 (min x 64) = m ∧ 0 ≤ m ∧ m ≤ 64 := ⟨_, rfl, by omega, by omega⟩
    rw [hm]
    have d1 : decide (-64 < b) = true := by simp; omega
    have d2 : decide (b < 64) = true := by simp; omega
    go_enter Try.func131, Try.ntmps131
    go_wp2_with fail
    refine (of_any A n c l _ hr hn).mono ?_
    rintro e w1 ⟨rfl, hb1⟩
    have K1 := Blk.new w1 149 (Array.replicate 64 (.bool false))
    go_wp2_with (first
      | (refine wpList_store_row rfl 149 (.tmp 7) (.tmp 13) rfl _ (rowC (inRuns l)) rfl rfl _ _ K1 (by rw [rowC_size]; kernel_rfl) (by rw [rowC_size]; rfl) (rowC_one _) ?_)
      | (refine wpList_load_row rfl 149 (.tmp 7) rfl _ rfl _ _ _ _ ((K1.row (rowC (inRuns l))).alloc (.cells (Array.replicate 64 (.bool false)) 149)) Try.underlying149 rfl (by rw [rowC_size]; kernel_rfl) ?_))
    go_loopw [21] (fun kv wr => ∃ k : Nat, k ≤ 64 ∧ kv = .int .i64 k ∧ ShRel w l b m w1.heap.size (w1.heap.size + 1) k wr) (fun kv _ => 64 - (intOf kv).toNat)
    case atStart => exact ⟨0, by omega, rfl, ShRel.start hb1⟩
    case round =>
      obtain ⟨k, hk, rfl, hR⟩ := hrel
      by_cases hlt : k < 64
      · have hidx := row_index (inRuns l) k hlt
        cases hS : inRuns l k with
        | false =>
          rw [hS] at hidx
          have hnext := hR.skip (fun t _ e => by unfold moved; rw [show ((t : Int) - b).toNat = k by omega, hS]; simp)
          clear hS
          go_wp2_with (go_at_call 119; refine (cut_any _ _).mono ?_; rintro e w' ⟨rfl, rfl⟩)
          go_roundw
          case rel => exact ⟨k + 1, by omega, by go_num, hnext⟩
          case measure => simp [intOf]; omega
        | true =>
          rw [hS] at hidx
          by_cases h0 : (k : Int) + b < 0
          · have hnext := hR.skip (fun t _ e => absurd e (by omega))
            clear hS
            go_wp2_with (go_at_call 119; refine (cut_any _ _).mono ?_; rintro e w' ⟨rfl, rfl⟩)
            go_roundw
            case rel => exact ⟨k + 1, by omega, by go_num, hnext⟩
            case measure => simp [intOf]; omega
          · obtain ⟨t, ht⟩ := Int.eq_ofNat_of_zero_le (show 0 ≤ (k : Int) + b by omega)
            by_cases h1 : (t : Int) < m
            · have hmv : moved l b m t = true := by unfold moved; rw [show ((t : Int) - b).toNat = k by omega, hS]; simp; omega
              have hnext := hR.put ht.symm (by omega) hmv
              have c2 : ∃ v, wr.cell? ⟨w1.heap.size + 1, t, none⟩ = some v := ⟨_, by rw [hR.2.1.cell, rowC_get _ t (by omega)]⟩
              obtain ⟨v, c2⟩ := c2
              have c3 := hR.2.1.frozen t
              have ht64 : t < 64 := by omega
              clear hS hmv
              go_wp2_with (go_at_call 119; refine (cut_any _ _).mono ?_; rintro e w' ⟨rfl, rfl⟩)
              go_roundw
              case rel => exact ⟨k + 1, by omega, by go_num, hnext⟩
              case measure => simp [intOf]; omega
            · have hnext := hR.skip (fun t2 _ e => by unfold moved; rw [show decide ((t2 : Int) < m) = false by simp; omega]; simp)
              have ht99 : t < 128 := by omega
              clear hS
              go_wp2_with (go_at_call 119; refine (cut_any _ _).mono ?_; rintro e w' ⟨rfl, rfl⟩)
              go_roundw
              case rel => exact ⟨k + 1, by omega, by go_num, hnext⟩
              case measure => simp [intOf]; omega
      · obtain rfl : k = 64 := by omega
        obtain ⟨h1, h2, h3, h4, h5⟩ := hR
        have e : rowC (fun t => moved l b m t && decide ((t : Int) - b < (64 : Nat))) = rowC (moved l b m) := rowC_ext fun t _ => by
          unfold moved
          by_cases hh : (t : Int) - b < 64
          · simp [hh]
          · simp [hh]
        rw [e] at h2
        go_wp2_with (refine wpList_load_row rfl 149 (.tmp 8) rfl _ rfl _ _ _ _ h2 Try.underlying149 rfl (by rw [rowC_size]; kernel_rfl) ?_)
        refine (runs_any _ _).mono ?_
        rintro e w4 ⟨A', c', rfl, hr4, hb4⟩
        go_wp2_with fail
        go_ret
        exact ⟨A', c', rfl, hr4, btrans h5 hb4⟩
  · have he : shift l b x = [] := by unfold shift; rw [if_neg hb]
    rw [he]
    clear he
    have hz := rl_none 64
    by_cases h0 : -64 < b
    all_goals
      go_enter Try.func131, Try.ntmps131
      go_wp2_with fail
      refine (of_any A n c l _ hr hn).mono ?_
      rintro e w1 ⟨rfl, hb1⟩
      have K1 := Blk.new w1 149 (Array.replicate 64 (.bool false))
      go_wp2_with (first
        | (refine wpList_store_row rfl 149 (.tmp 7) (.tmp 13) rfl _ (rowC (inRuns l)) rfl rfl _ _ K1 (by rw [rowC_size]; kernel_rfl) (by rw [rowC_size]; rfl) (rowC_one _) ?_)
        | (refine wpList_load_row rfl 149 (.tmp 8) rfl _ rfl _ _ _ _ (second_zero w1 (rowC (inRuns l))) Try.underlying149 rfl (by rw [rowC_size]; kernel_rfl) ?_))
      refine (runs_any _ _).mono ?_
      rintro e w4 ⟨A', c', rfl, hr4, hb4⟩
      rw [hz] at hr4 ⊢
      go_wp2_with fail
      go_ret
      exact ⟨A', c', rfl, hr4, btrans (balloc (brow (balloc hb1 _) hb1.size _) _) hb4⟩

theorem shift_norm (l : List (Int × Int)) (x : Int) : shift l 0 x = rl (inRuns l) (max 0 (min x 64)).toNat := by
  unfold shift
  rw [if_pos (by omega)]
  obtain ⟨m, hm⟩ : ∃ m : Nat, (m : Int) = max 0 (min x 64) := ⟨(max 0 (min x 64)).toNat, by omega⟩
  have hm64 : m ≤ 64 := by omega
  rw [← hm, Int.toNat_natCast]
  have e1 : rl (moved l 0 m) 64 = rl (moved l 0 m) m := by
    obtain ⟨d, hd⟩ : ∃ d, 64 = m + d := ⟨64 - m, by omega⟩
    rw [hd]
    exact rl_stay (fun j hj => by unfold moved; rw [show decide ((j : Int) < (m : Int)) = false by simp; omega]; simp) d
  rw [e1]
  refine rl_ext m fun i hi => ?_
  unfold moved
  have a1 : ((i : Int) - 0).toNat = i := by omega
  rw [a1]
  have a2 : decide (0 ≤ (i : Int) - 0) = true := by simp
  have a3 : decide ((i : Int) - 0 < 64) = true := by simp; omega
  have a4 : decide ((i : Int) < (m : Int)) = true := by simp; omega
  rw [a2, a3, a4]
  simp

def norm (l : List (Int × Int)) (x : Int) : List (Int × Int) := rl (inRuns l) (max 0 (min x 64)).toNat
theorem norm_any (A : Option Addr) (n c : Nat) (l : List (Int × Int)) (x : Int) (w : World) (hr : Runs w A n c l) (hn : n ≤ 9223372036854775807) :
    Calls Try.prog 126 #[.slice A n c, .int .i64 x] w fun e w' => ∃ A' c', e = .returned (.slice A' (norm l x).length c') ∧ Runs w' A' (norm l x).length c' (norm l x) ∧ Below w.heap.size w w' := by
  have he : shift l 0 x = norm l x := shift_norm l x
  rw [← he]
  clear he
  go_enter Try.func126, Try.ntmps126
  go_wp2_with fail
  refine (shift_any A n c l 0 x w hr hn).mono ?_
  rintro e w1 ⟨A', c', rfl, hr1, hb1⟩
  go_wp2_with fail
  go_ret
  exact ⟨A', c', rfl, hr1, hb1⟩

theorem Runs.lit (w : World) (x y : Int) (t : TypeId) (c : Nat) (hc : 1 ≤ c) : Runs (w.alloc (.cells #[.int .i64 x, .int .i64 y] t)) (some ⟨w.heap.size, 0, none⟩) 1 c [(x, y)] := by
  have K := Blk.new w t #[.int .i64 x, .int .i64 y]
  refine ⟨rfl, hc, fun _ => ⟨w.heap.size, 0, rfl, K.lt, fun j hj => ?_⟩⟩
  obtain rfl : j = 0 := by simpa using hj
  exact ⟨by rw [K.cell]; rfl, by rw [K.cell]; rfl⟩

def notL (l : List (Int × Int)) (x : Int) : List (Int × Int) := rl (fun i => !inRuns l i) (max 0 (min x 64)).toNat
theorem less_not (l : List (Int × Int)) (x : Int) : two (fun x y => x && !y) [(0, max 0 (min x 64))] l = notL l x := by
  obtain ⟨m, hm⟩ : ∃ m : Nat, (m : Int) = max 0 (min x 64) := ⟨(max 0 (min x 64)).toNat, by omega⟩
  have hm64 : m ≤ 64 := by omega
  unfold two notL
  rw [← hm, Int.toNat_natCast]
  simp only [inRuns_one]
  have e1 : rl (fun i => decide ((0 : Int) ≤ (i : Int)) && decide ((i : Int) < (m : Int)) && !inRuns l i) 64 = rl (fun i => decide ((0 : Int) ≤ (i : Int)) && decide ((i : Int) < (m : Int)) && !inRuns l i) m := by
    obtain ⟨d, hd⟩ : ∃ d, 64 = m + d := ⟨64 - m, by omega⟩
    rw [hd]
    exact rl_stay (fun j hj => by rw [show decide ((j : Int) < (m : Int)) = false by simp; omega]; simp) d
  rw [e1]
  refine rl_ext m fun i hi => ?_
  rw [show decide ((i : Int) < (m : Int)) = true by simp; omega]
  simp

theorem not_any (A : Option Addr) (n c : Nat) (l : List (Int × Int)) (x : Int) (w : World) (hr : Runs w A n c l) (hn : n ≤ 9223372036854775807) :
    Calls Try.prog 96 #[.slice A n c, .int .i64 x] w fun e w' => ∃ A' c', e = .returned (.slice A' (notL l x).length c') ∧ Runs w' A' (notL l x).length c' (notL l x) ∧ Below w.heap.size w w' := by
  have he := less_not l x
  rw [← he]
  clear he
  generalize hm : max 0 (min x 64) = m
  go_enter Try.func96, Try.ntmps96
  go_wp2_with (go_at_call 119; refine (cut_any _ _).mono ?_; rintro e w' ⟨rfl, rfl⟩)
  refine (less_any _ A 1 1 n c [(0, m)] l _ (Runs.lit w 0 m 109 1 (Nat.le_refl _)) (hr.below (balloc (Below.refl _ _) _)) (by omega) hn).mono ?_
  rintro e w1 ⟨A', c', rfl, hr1, hb1⟩
  go_wp2_with fail
  go_ret
  exact ⟨A', c', rfl, hr1, btrans (balloc (Below.refl _ _) _) hb1⟩
end Go.Proofs.Ytegpjjkbbdfggaa.sp

/-
  Regions: rows of runs in order; the slice that holds them.
-/
namespace Go.Proofs.Ytegpjjkbbdfggaa.rg
set_option linter.unusedVariables false
set_option linter.unusedSimpArgs false
open Go.RowKit bs sp

theorem may_each {w last : Int} {l : List (Int × Int)} (h : mayFrom w last l = true) : ∀ (s : Nat) (hs : s < l.length), last < l[s].1 ∧ l[s].1 < l[s].2 ∧ l[s].2 ≤ w := by
  induction l generalizing last with
  | nil => intro s hs; simp at hs
  | cons x l ih =>
    obtain ⟨a, b⟩ := x
    simp only [mayFrom, Bool.and_eq_true, decide_eq_true_eq] at h
    obtain ⟨⟨h1, h2, h3⟩, h4⟩ := h
    intro s hs
    cases s with
    | zero => exact ⟨h1, h2, h3⟩
    | succ s =>
      have := ih h4 s (by simpa using hs)
      simp only [List.getElem_cons_succ]
      omega
theorem may_pair {w last : Int} {l : List (Int × Int)} (h : mayFrom w last l = true) : ∀ (s t : Nat) (hs : s < t) (ht : t < l.length), (l[s]'(by omega)).2 < l[t].1 := by
  induction l generalizing last with
  | nil => intro s t hs ht; simp at ht
  | cons x l ih =>
    obtain ⟨a, b⟩ := x
    simp only [mayFrom, Bool.and_eq_true, decide_eq_true_eq] at h
    obtain ⟨_, h4⟩ := h
    intro s t hs ht
    cases t with
    | zero => omega
    | succ t =>
      cases s with
      | zero => exact (may_each h4 t (by simpa using ht)).1
      | succ s => exact ih h4 s t (by omega) (by simpa using ht)
/-- up to where the first t runs reach -/
def reach (l : List (Int × Int)) (t : Nat) : Int := lastTo 0 (l.take t)
theorem reach_zero (l : List (Int × Int)) : reach l 0 = 0 := rfl
theorem reach_succ {l : List (Int × Int)} {t : Nat} (ht : t < l.length) : reach l (t + 1) = l[t].2 := by
  unfold reach
  rw [List.take_succ_eq_append_getElem ht, lastTo_append]
theorem reach_le {w : Int} {l : List (Int × Int)} (h : mayFrom w (-1) l = true) {t : Nat} (ht : t < l.length) : 0 ≤ reach l t ∧ reach l t ≤ l[t].1 ∧ l[t].1 < l[t].2 ∧ l[t].2 ≤ w := by
  obtain ⟨h1, h2, h3⟩ := may_each h t ht
  cases t with
  | zero => rw [reach_zero]; omega
  | succ t =>
    rw [reach_succ (by omega)]
    have h4 := may_pair h t (t + 1) (by omega) ht
    have h5 := may_each h t (by omega)
    omega
theorem reach_end {w : Int} {l : List (Int × Int)} (h : mayFrom w (-1) l = true) (hw : 0 ≤ w) : 0 ≤ reach l l.length ∧ reach l l.length ≤ w := by
  cases hl : l.length with
  | zero => rw [reach_zero]; omega
  | succ t =>
    rw [reach_succ (by omega)]
    have := may_each h t (by omega)
    omega
theorem in_run {l : List (Int × Int)} {t : Nat} (ht : t < l.length) {i : Nat} (h1 : l[t].1 ≤ (i : Int)) (h2 : (i : Int) < l[t].2) : inRuns l i = true := by
  unfold inRuns
  rw [List.any_eq_true]
  exact ⟨l[t], List.getElem_mem ht, by simp [h1, h2]⟩
theorem in_gap {w : Int} {l : List (Int × Int)} (h : mayFrom w (-1) l = true) {t : Nat} {i : Nat} (h1 : reach l t ≤ (i : Int)) (ht : t ≤ l.length) (h2 : ∀ ht : t < l.length, (i : Int) < l[t].1) : inRuns l i = false := by
  cases hr : inRuns l i with
  | false => rfl
  | true =>
    unfold inRuns at hr
    rw [List.any_eq_true] at hr
    obtain ⟨x, hx, hin⟩ := hr
    obtain ⟨s, hs, rfl⟩ := List.getElem_of_mem hx
    simp only [Bool.and_eq_true, decide_eq_true_eq] at hin
    exfalso
    rcases Nat.lt_or_ge s t with hst | hst
    · obtain ⟨t', rfl⟩ : ∃ t', t = t' + 1 := ⟨t - 1, by omega⟩
      rw [reach_succ (by omega)] at h1
      rcases Nat.lt_or_ge s t' with h3 | h3
      · have := may_pair h s t' h3 (by omega)
        have := may_each h t' (by omega)
        omega
      · obtain rfl : s = t' := by omega
        omega
    · have h3 := h2 (by omega)
      rcases Nat.lt_or_ge t s with h4 | h4
      · have := may_pair h t s h4 hs
        have := may_each h t (by omega)
        omega
      · obtain rfl : t = s := by omega
        omega

/-- the slice at A, of length n and capacity c, holds the rows L -/
def Rows (w : World) (A : Option Addr) (n c : Nat) (L : Nat → List (Int × Int)) : Prop :=
  n ≤ c ∧ (0 < n → ∃ b o, A = some ⟨b, o, none⟩ ∧ b < w.heap.size ∧ ∀ j, j < n → (L j).length ≤ 9223372036854775807 ∧ ∃ Aj cj, w.cell? ⟨b, o + j, none⟩ = some (.slice Aj (L j).length cj) ∧ Runs w Aj (L j).length cj (L j))
theorem Rows.below {w w' : World} {A : Option Addr} {n c : Nat} {L : Nat → List (Int × Int)} (h : Rows w A n c L) (hb : Below w.heap.size w w') : Rows w' A n c L := by
  obtain ⟨h1, h2⟩ := h
  refine ⟨h1, fun hn => ?_⟩
  obtain ⟨b, o, e, hlt, hc⟩ := h2 hn
  refine ⟨b, o, e, Nat.lt_of_lt_of_le hlt hb.size, fun j hj => ?_⟩
  obtain ⟨hl, Aj, cj, h3, h4⟩ := hc j hj
  exact ⟨hl, Aj, cj, (hb.cell (p := ⟨b, o + j, none⟩) hlt).trans h3, h4.below hb⟩
theorem Rows.belowB {W w w' : World} {B : Nat} {A : Option Addr} {n c : Nat} {L : Nat → List (Int × Int)} (h : Rows w A n c L) (hb : Below w.heap.size w w') : Rows w' A n c L := h.below hb
theorem Rows.ext {w : World} {A : Option Addr} {n c : Nat} {L M : Nat → List (Int × Int)} (h : Rows w A n c L) (e : ∀ j, j < n → L j = M j) : Rows w A n c M := by
  obtain ⟨h1, h2⟩ := h
  refine ⟨h1, fun hn => ?_⟩
  obtain ⟨b, o, ea, hlt, hc⟩ := h2 hn
  exact ⟨b, o, ea, hlt, fun j hj => by rw [← e j hj]; exact hc j hj⟩
/-- one row -/
theorem Rows.at_ {w : World} {A : Option Addr} {n c : Nat} {L : Nat → List (Int × Int)} (h : Rows w A n c L) (hn : 0 < n) : ∃ b o, A = some ⟨b, o, none⟩ ∧ b < w.heap.size ∧ ∀ j, j < n → (L j).length ≤ 9223372036854775807 ∧ ∃ Aj cj, w.cell? ⟨b, o + j, none⟩ = some (.slice Aj (L j).length cj) ∧ Runs w Aj (L j).length cj (L j) := h.2 hn
/-- rows in order, of a set of pixels -/
def rowsOf (W : Nat) (R : Nat → Nat → Bool) (j : Nat) : List (Int × Int) := rl (R j) W
theorem rowsOf_len (W : Nat) (R : Nat → Nat → Bool) (j : Nat) (hW : W ≤ 64) : (rowsOf W R j).length ≤ 64 := by have := (rl_len (R j) W).1; unfold rowsOf; omega
theorem rowsOf_may (W : Nat) (R : Nat → Nat → Bool) (j : Nat) : mayFrom (W : Int) (-1) (rowsOf W R j) = true := may_rl (R j) W W (Int.le_refl _)
theorem rowsOf_in (W : Nat) (R : Nat → Nat → Bool) (j i : Nat) : inRuns (rowsOf W R j) i = (R j i && decide (i < W)) := inRuns_rl (R j) W i
theorem rowsOf_mayB (W : Nat) (R : Nat → Nat → Bool) (j : Nat) (hW : W ≤ 64) : mayB (rowsOf W R j) W = true := by
  unfold mayB
  rw [rowsOf_may]
  simp; omega
theorem rowsOf_ext {W : Nat} {R S : Nat → Nat → Bool} {j : Nat} (h : ∀ i, i < W → R j i = S j i) : rowsOf W R j = rowsOf W S j := rl_ext W h
end Go.Proofs.Ytegpjjkbbdfggaa.rg

/-
  Layer 36: the contracts of Blend, side, May, New and At. (PRUNE)
-/
namespace Go.Proofs.Ytegpjjkbbdfggaa.ik
set_option linter.unusedVariables false
set_option linter.unusedSimpArgs false
open Go.RowKit bs

def blend (u o a : Int) : Int := (2 * (u * (255 - a) + o * a) + 255) / 510

theorem prod_bd (u a : Int) (h0 : 0 ≤ u) (h1 : u ≤ 255) (k0 : 0 ≤ a) (k1 : a ≤ 255) : 0 ≤ u * a ∧ u * a ≤ 255 * a := by
  exact ⟨Int.mul_nonneg h0 k0, Int.mul_le_mul_of_nonneg_right h1 k0⟩

/-- the two products, named, with their bounds -/
theorem blend_names (u o a : Int) (hu : 0 ≤ u ∧ u ≤ 255) (ho : 0 ≤ o ∧ o ≤ 255) (ha : 0 ≤ a ∧ a ≤ 255) :
    ∃ p q : Int, u * (255 - a) = p ∧ o * a = q ∧ 0 ≤ p ∧ 0 ≤ q ∧ p ≤ 65025 ∧ q ≤ 65025 ∧ p + q ≤ 65025 ∧ blend u o a = (2 * (p + q) + 255) / 510 := by
  have h1 := prod_bd u (255 - a) hu.1 hu.2 (by omega) (by omega)
  have h2 := prod_bd o a ho.1 ho.2 ha.1 ha.2
  exact ⟨_, _, rfl, rfl, by omega, by omega, by omega, by omega, by omega, rfl⟩

theorem blend_bd (u o a : Int) (hu : 0 ≤ u ∧ u ≤ 255) (ho : 0 ≤ o ∧ o ≤ 255) (ha : 0 ≤ a ∧ a ≤ 255) : 0 ≤ blend u o a ∧ blend u o a ≤ 255 := by
  obtain ⟨p, q, _, _, _, _, _, _, _, h⟩ := blend_names u o a hu ho ha
  omega

theorem blend_any (u o a : Int) (w : World) (hu : 0 ≤ u ∧ u ≤ 255) (ho : 0 ≤ o ∧ o ≤ 255) (ha : 0 ≤ a ∧ a ≤ 255) :
    Calls Try.prog 101 #[.int .u8 u, .int .u8 o, .int .u8 a] w fun e w' => e = .returned (.int .u8 (blend u o a)) ∧ w = w' := by
  obtain ⟨p, q, hp, hq, p0, q0, p1, q1, pq, hb⟩ := blend_names u o a hu ho ha
  rw [hb]
  clear hb
  obtain ⟨u0, u1⟩ := hu
  obtain ⟨o0, o1⟩ := ho
  obtain ⟨a0, a1⟩ := ha
  go_enter Try.func101, Try.ntmps101
  go_wp2_with fail
  go_ret
  exact ⟨ret_int rfl, rfl⟩

/-! ### InkBlends, plain -/
theorem blend_all (u o : Int) (hu : 0 ≤ u ∧ u ≤ 255) (ho : 0 ≤ o ∧ o ≤ 255) : blend u o 255 = o := by unfold blend; omega
theorem blend_none (u o : Int) (hu : 0 ≤ u ∧ u ≤ 255) (ho : 0 ≤ o ∧ o ≤ 255) : blend u o 0 = u := by unfold blend; omega
theorem blend_same (u a : Int) (hu : 0 ≤ u ∧ u ≤ 255) : blend u u a = u := by
  have h : u * (255 - a) + u * a = 255 * u := by rw [← Int.mul_add, show (255 - a) + a = (255 : Int) by omega, Int.mul_comm]
  unfold blend; rw [h]; omega
theorem blend_swap (u o a : Int) : blend o u (255 - a) = blend u o a := by
  unfold blend
  have h : o * (255 - (255 - a)) + u * (255 - a) = u * (255 - a) + o * a := by rw [show (255 - (255 - a)) = a by omega, Int.add_comm]
  rw [h]
theorem blend_between (u o a lo hi : Int) (ha : 0 ≤ a ∧ a ≤ 255) (h1 : lo ≤ u) (h2 : lo ≤ o) (h3 : u ≤ hi) (h4 : o ≤ hi) : lo ≤ blend u o a ∧ blend u o a ≤ hi := by
  have a1 := Int.mul_le_mul_of_nonneg_right h1 (show 0 ≤ 255 - a by omega)
  have a2 := Int.mul_le_mul_of_nonneg_right h2 ha.1
  have b1 := Int.mul_le_mul_of_nonneg_right h3 (show 0 ≤ 255 - a by omega)
  have b2 := Int.mul_le_mul_of_nonneg_right h4 ha.1
  have c1 : lo * (255 - a) + lo * a = 255 * lo := by rw [← Int.mul_add, show (255 - a) + a = (255 : Int) by omega, Int.mul_comm]
  have c2 : hi * (255 - a) + hi * a = 255 * hi := by rw [← Int.mul_add, show (255 - a) + a = (255 : Int) by omega, Int.mul_comm]
  unfold blend
  generalize u * (255 - a) = p at *
  generalize o * a = q at *
  omega

def sideB (n : Int) : Bool := decide (1 ≤ n ∧ n ≤ 64)
theorem side_any (n : Int) (w : World) :
    Calls Try.prog 73 #[.int .i64 n] w fun e w' => e = .returned (.bool (sideB n)) ∧ w = w' := by
  by_cases h1 : 1 ≤ n
  · go_enter Try.func73, Try.ntmps73
    go_wp2_with fail
    go_ret
    exact ⟨ret_bool (by unfold sideB; simp; omega), rfl⟩
  · go_enter Try.func73, Try.ntmps73
    go_wp2_with fail
    go_ret
    exact ⟨ret_bool (by unfold sideB; simp; omega), rfl⟩
end Go.Proofs.Ytegpjjkbbdfggaa.ik

/-
  Layer 36: the contracts of May, New and At. (PRUNE)
-/
namespace Go.Proofs.Ytegpjjkbbdfggaa.ik
set_option linter.unusedVariables false
set_option maxRecDepth 100000
set_option linter.unusedSimpArgs false
open Go.RowKit bs

def mayB (W H : Int) (n : Nat) : Bool := sideB W && sideB H && ((n : Int) == 3 * W * H)

theorem sideB_true {n : Int} (h0 : 1 ≤ n) (h1 : n ≤ 64) : sideB n = true := by unfold sideB; simp; omega
theorem sideB_false {n : Int} (h : n < 1 ∨ 64 < n) : sideB n = false := by unfold sideB; simp; omega

theorem may_any (W H : Int) (A : Option Addr) (n c : Nat) (w : World) (hn : n ≤ 9223372036854775807) :
    Calls Try.prog 71 #[.agg #[.int .i64 W, .int .i64 H, .slice A n c]] w fun e w' => e = .returned (.bool (mayB W H n)) ∧ Below w.heap.size w w' := by
  by_cases hW : 1 ≤ W ∧ W ≤ 64
  · have s1 := sideB_true hW.1 hW.2
    obtain ⟨w0, w1⟩ := hW
    by_cases hH : 1 ≤ H ∧ H ≤ 64
    · have s2 := sideB_true hH.1 hH.2
      obtain ⟨h0, h1⟩ := hH
      have hm : ∃ m, 3 * W * H = m ∧ 3 ≤ m ∧ m ≤ 12288 := by
        have a1 := Int.mul_le_mul (show 3 * W ≤ 192 by omega) h1 (by omega) (by omega)
        have a2 := Int.mul_le_mul (show 3 ≤ 3 * W by omega) h0 (by omega) (by omega)
        exact ⟨_, rfl, by omega, by omega⟩
      obtain ⟨m, hm, m0, m1⟩ := hm
      have he : mayB W H n = ((n : Int) == m) := by unfold mayB; rw [s1, s2, hm]; rfl
      rw [he]
      clear he
      go_enter Try.func71, Try.ntmps71
      go_wp2_with (go_at_call 73; refine (side_any _ _).mono ?_; rintro e w' ⟨rfl, rfl⟩)
      go_ret
      exact ⟨rfl, by (repeat' (first | exact Below.refl _ _ | exact Below.refl _ _ | refine balloc ?_ _ | refine Below.drew ?_ | refine below_drewN ?_ _ | refine bset ?_ (by first | omega | (simp <;> omega)) _))⟩
    · have s2 : sideB H = false := sideB_false (by omega)
      have he : mayB W H n = false := by unfold mayB; rw [s1, s2]; rfl
      rw [he]
      clear he
      go_enter Try.func71, Try.ntmps71
      go_wp2_with (go_at_call 73; refine (side_any _ _).mono ?_; rintro e w' ⟨rfl, rfl⟩)
      go_ret
      exact ⟨rfl, by (repeat' (first | exact Below.refl _ _ | exact Below.refl _ _ | refine balloc ?_ _ | refine Below.drew ?_ | refine below_drewN ?_ _ | refine bset ?_ (by first | omega | (simp <;> omega)) _))⟩
  · have s1 : sideB W = false := sideB_false (by omega)
    have he : mayB W H n = false := by unfold mayB; rw [s1]; rfl
    rw [he]
    clear he
    go_enter Try.func71, Try.ntmps71
    go_wp2_with (go_at_call 73; refine (side_any _ _).mono ?_; rintro e w' ⟨rfl, rfl⟩)
    go_ret
    exact ⟨rfl, by (repeat' (first | exact Below.refl _ _ | exact Below.refl _ _ | refine balloc ?_ _ | refine Below.drew ?_ | refine below_drewN ?_ _ | refine bset ?_ (by first | omega | (simp <;> omega)) _))⟩

set_option maxHeartbeats 800000 in
theorem at_yes (W H : Int) (A : Option Addr) (n c : Nat) (bs : List UInt8) (i j : Nat) (w : World) (hr : Bytes w A n c bs) (hm : mayB W H n = true) (hi : (i : Int) < W) (hj : (j : Int) < H) :
    Calls Try.prog 36 #[.agg #[.int .i64 W, .int .i64 H, .slice A n c], .int .i64 i, .int .i64 j] w fun e w' =>
      e = .returned (.tuple #[.agg #[.int .u8 ((bs.getD (3 * (j * W.toNat + i)) 0).toNat : Int), .int .u8 ((bs.getD (3 * (j * W.toNat + i) + 1) 0).toNat : Int), .int .u8 ((bs.getD (3 * (j * W.toNat + i) + 2) 0).toNat : Int), .int .u8 255], .bool true]) ∧ Below w.heap.size w w' := by
  have hmm := hm
  simp only [mayB, sideB, Bool.and_eq_true, decide_eq_true_eq, beq_iff_eq] at hmm
  obtain ⟨⟨⟨w0, w1⟩, h0, h1⟩, hn⟩ := hmm
  obtain ⟨V, rfl⟩ := Int.eq_ofNat_of_zero_le (show 0 ≤ W by omega)
  obtain ⟨G, rfl⟩ := Int.eq_ofNat_of_zero_le (show 0 ≤ H by omega)
  have hnn : n = 3 * V * G := by have h3 : ((3 * V * G : Nat) : Int) = 3 * (V : Int) * (G : Int) := by push_cast; rfl
                                 omega
  have hp : j * V + i < V * G := by
    have a1 : (j + 1) * V ≤ G * V := Nat.mul_le_mul_right _ (by omega)
    rw [Nat.add_mul, Nat.mul_comm G V] at a1
    omega
  have hq : V * G ≤ 4096 := Nat.mul_le_mul (show V ≤ 64 by omega) (show G ≤ 64 by omega)
  have hq3 : 3 * V * G = 3 * (V * G) := Nat.mul_assoc _ _ _
  obtain ⟨b, o, rfl, hb, hc⟩ := hr.at_ (by omega)
  simp only [Int.toNat_natCast]
  have hcell : ∀ t, t < 3 → w.cell? ⟨b, o + (3 * (j * V + i) + t), none⟩ = some (.int .u8 ((bs.getD (3 * (j * V + i) + t) 0).toNat : Int)) := fun t ht => hc _ (by omega)
  have c0 := hcell 0 (by omega)
  have c1 := hcell 1 (by omega)
  have c2 := hcell 2 (by omega)
  rw [Nat.add_zero] at c0
  have HC : Hid (n = 3 * V * G) := hnn
  have hn9 : n ≤ 12288 := by omega
  have hk9 : 3 * (j * V + i) + 2 < n := by omega
  clear hc hcell hn hr hnn hq3
  generalize hk : j * V + i = k at *
  have hk' : (j : Int) * (V : Int) + (i : Int) = (k : Int) := by rw [← hk]; push_cast; rfl
  have HK := Lib.hid hk
  clear hk
  go_enter Try.func36, Try.ntmps36
  go_wp2_with (go_at_call 71; refine (may_any _ _ _ _ _ _ (by omega)).mono ?_; rintro e w1 ⟨rfl, hb1⟩; obtain ⟨hcc, hff⟩ := bcell hb1)
  have hbw : Below w.heap.size w w1 := btrans (by (repeat' (first | exact Below.refl _ _ | exact Below.refl _ _ | refine balloc ?_ _ | refine Below.drew ?_ | refine below_drewN ?_ _ | refine bset ?_ (by first | omega | (simp <;> omega)) _))) hb1
  have d0 := (hbw.cell (p := ⟨b, o + 3 * k, none⟩) hb).trans c0
  have d1 := (hbw.cell (p := ⟨b, o + (3 * k + 1), none⟩) hb).trans c1
  have d2 := (hbw.cell (p := ⟨b, o + (3 * k + 2), none⟩) hb).trans c2
  clear c0 c1 c2
  go_region
  go_wp2
  have K := ((Blk.new (w.alloc (.cells #[.int .i64 V, .int .i64 G, .slice (some ⟨b, o, none⟩) n c] 46)) 62 #[.int .u8 0, .int .u8 0, .int .u8 0, .int .u8 0]).below hb1 (by simp))
  have hs1 : (w.alloc (.cells #[.int .i64 V, .int .i64 G, .slice (some ⟨b, o, none⟩) n c] 46)).heap.size = w.heap.size + 1 := by simp
  rw [hs1] at K
  have K4 := (((K.set_ 0 (.int .u8 ((bs.getD (3 * k) 0).toNat : Int))).set_ 1 (.int .u8 ((bs.getD (3 * k + 1) 0).toNat : Int))).set_ 2 (.int .u8 ((bs.getD (3 * k + 2) 0).toNat : Int))).set_ 3 (.int .u8 255)
  refine ret_struct2 (g := w.heap.size + 1) (t := 62) (cs := #[.int .u8 ((bs.getD (3 * k) 0).toNat : Int), .int .u8 ((bs.getD (3 * k + 1) 0).toNat : Int), .int .u8 ((bs.getD (3 * k + 2) 0).toNat : Int), .int .u8 255]) rfl rfl ?_ Try.underlying62 rfl rfl rfl ?_
  · first | exact K4 | exact K4.drew
  · exact ⟨rfl, by (repeat' (first | exact hbw | exact Below.refl _ _ | refine balloc ?_ _ | refine Below.drew ?_ | refine below_drewN ?_ _ | refine bset ?_ (by first | omega | (simp <;> omega)) _))⟩
end Go.Proofs.Ytegpjjkbbdfggaa.ik

/-
  Regions: side, May. (PRUNE)
-/
namespace Go.Proofs.Ytegpjjkbbdfggaa.rg
set_option linter.unusedVariables false
set_option linter.unusedSimpArgs false
open Go.RowKit bs sp ik

theorem rside_any (n : Int) (w : World) :
    Calls Try.prog 111 #[.int .i64 n] w fun e w' => e = .returned (.bool (sideB n)) ∧ w = w' := by
  by_cases h1 : 1 ≤ n
  · go_enter Try.func111, Try.ntmps111
    go_wp2_with fail
    go_ret
    exact ⟨ret_bool (by unfold sideB; simp; omega), rfl⟩
  · go_enter Try.func111, Try.ntmps111
    go_wp2_with fail
    go_ret
    exact ⟨ret_bool (by unfold sideB; simp; omega), rfl⟩
theorem rside_yes (n : Nat) (h : 1 ≤ n ∧ n ≤ 64) (w : World) : Calls Try.prog 111 #[.int .i64 (n : Int)] w fun e w' => e = .returned (.bool true) ∧ w = w' := by
  have := rside_any (n : Int) w
  rw [sideB_true (by omega) (by omega)] at this
  exact this

set_option maxRecDepth 100000 in
set_option maxHeartbeats 1600000 in
theorem rmay_yes (W H c : Nat) (A : Option Addr) (L : Nat → List (Int × Int)) (w : World) (hW : 1 ≤ W ∧ W ≤ 64) (hH : 1 ≤ H ∧ H ≤ 64) (hL : ∀ j, j < H → mayB (L j) W = true) (hr : Rows w A H c L) :
    Calls Try.prog 72 #[.agg #[.int .i64 (W : Int), .int .i64 (H : Int), .slice A H c]] w fun e w' => e = .returned (.bool true) ∧ Below w.heap.size w w' := by
  have K := Blk.new w 51 #[.int .i64 (W : Int), .int .i64 (H : Int), .slice A H c]
  have hbw : Below w.heap.size w (w.alloc (.cells #[.int .i64 (W : Int), .int .i64 (H : Int), .slice A H c] 51)) := balloc (Below.refl _ _) _
  have HS1 := Lib.hid (rside_yes W hW)
  have HS2 := Lib.hid (rside_yes H hH)
  have HL := Lib.hid hL
  have HR := Lib.hid hr
  have HK := Lib.hid K
  have HBW := Lib.hid hbw
  clear hW hL hr K hbw
  go_enter Try.func72, Try.ntmps72
  go_wp2_with (go_at_call 111; first | (refine (HS1.out _).mono ?_; rintro e w' ⟨rfl, rfl⟩) | (refine (HS2.out _).mono ?_; rintro e w' ⟨rfl, rfl⟩))
  go_loopw [4, 26] (fun lv kv wr => ∃ k : Nat, k ≤ H ∧ kv = .int .i64 (k : Int) ∧ Blk wr w.heap.size 51 #[.int .i64 (W : Int), .int .i64 (H : Int), .slice A H c] ∧ Below w.heap.size w wr) (fun _ kv _ => H - (intOf kv).toNat)
  case atStart => exact ⟨0, by omega, rfl, HK.out, HBW.out⟩
  case round =>
    clear HK HBW
    obtain ⟨k, hk, rfl, K, hbw⟩ := hrel
    by_cases hlt : k < H
    · have d1 : decide ((k : Int) < (H : Int)) = true := by simp; omega
      obtain ⟨hcc, hat⟩ := HR.out.below hbw
      obtain ⟨b, o, rfl, hb, hat⟩ := hat (by omega)
      obtain ⟨hlen, Aj, cj, q1, q2⟩ := hat k hlt
      have c0 := K.cell 0
      have lK := K.lt
      simp only [List.getElem?_toArray, List.getElem?_cons_succ, List.getElem?_cons_zero] at c0
      have HM := Lib.hid (fun W' (hW' : Below wr.heap.size wr W') => may_any Aj _ cj (L k) W W' (q2.below hW') hlen)
      rw [HL.out k hlt] at HM
      generalize (L k).length = nj at *
      have HK := Lib.hid K
      have HBW := Lib.hid hbw
      clear K hbw hat hcc hlen
      go_wp2_with fail
      refine (HM.out _ (by (repeat' (first | exact Below.refl _ _ | exact Below.refl _ _ | refine balloc ?_ _ | refine Below.drew ?_ | refine below_drewN ?_ _ | refine bset ?_ (by first | omega | (simp <;> omega)) _)))).mono ?_
      rintro e w1 ⟨rfl, hb1⟩
      have K := HK.out.below hb1 lK
      have hbw := btrans HBW.out hb1
      clear HK HBW HM q1 q2 c0
      go_wp2_with fail
      go_roundw
      case rel => exact ⟨k + 1, by omega, by go_num, K, hbw⟩
      case measure => simp [intOf]; omega
    · obtain rfl : k = H := by omega
      have d1 : decide ((k : Int) < (k : Int)) = false := by simp
      go_wp2_with fail
      go_ret
      exact ⟨rfl, hbw⟩
end Go.Proofs.Ytegpjjkbbdfggaa.rg

/-
  Every pixel of a region, in order: ink.each with any closure. (PRUNE)
-/
namespace Go.Proofs.Ytegpjjkbbdfggaa.rg
set_option linter.unusedVariables false
set_option linter.unusedSimpArgs false
open Go.RowKit bs sp ik

theorem gtrans {a b c : World} {g : Nat} (h : a.grownBy b (some g)) (k : b.grownBy c (some g)) : a.grownBy c (some g) :=
  ⟨k.os.trans h.os, k.tape.trans h.tape, k.output.trans h.output, Nat.le_trans h.size k.size, fun i hi hne => (k.block i (Nat.lt_of_lt_of_le hi h.size) hne).trans (h.block i hi hne)⟩
theorem gbelow {a b c : World} {g : Nat} (h : a.grownBy b (some g)) (k : Below b.heap.size b c) : a.grownBy c (some g) := gtrans h (only_of_below k _)
/-- what a walk over a region's pixels keeps, position by position -/
structure Walks (g W H : Nat) (R : Nat → Nat → Bool) (f : FuncId) (cap : Array Value) (Rel : Nat → World → Prop) : Prop where
  keep : ∀ p w1 w2, Rel p w1 → Below w1.heap.size w1 w2 → Rel p w2
  skip : ∀ j i w1, j < H → i < W → R j i = false → Rel (j * W + i) w1 → Rel (j * W + i + 1) w1
  step : ∀ j i w1, j < H → i < W → R j i = true → Rel (j * W + i) w1 → Calls Try.prog f (#[.int .i64 (3 * ((j * W + i : Nat) : Int))] ++ cap) w1 fun e w2 => e = .returned (.tuple #[]) ∧ Rel (j * W + i + 1) w2 ∧ w1.grownBy w2 (some g)
/-- each's loops at position p -/
def EIn (V w : World) (g W H c : Nat) (A : Option Addr) (Rel : Nat → World → Prop) (p : Nat) (wr : World) : Prop :=
  Rel p wr ∧ Below V.heap.size V wr ∧ w.grownBy wr (some g) ∧ Blk wr w.heap.size 51 #[.int .i64 (W : Int), .int .i64 (H : Int), .slice A H c]
section
variable {V w wr w' : World} {g W H c : Nat} {A : Option Addr} {Rel : Nat → World → Prop} {R : Nat → Nat → Bool} {f : FuncId} {cap : Array Value}
theorem EIn.below (hw : Walks g W H R f cap Rel) {p : Nat} (h : EIn V w g W H c A Rel p wr) (hb : Below wr.heap.size wr w') : EIn V w g W H c A Rel p w' :=
  ⟨hw.keep _ _ _ h.1 hb, btrans h.2.1 hb, gbelow h.2.2.1 hb, h.2.2.2.below hb h.2.2.2.lt⟩
theorem EIn.start (hw : Walks g W H R f cap Rel) (h : Rel 0 w) (hV : Below V.heap.size V w) : EIn V w g W H c A Rel 0 (w.alloc (.cells #[.int .i64 (W : Int), .int .i64 (H : Int), .slice A H c] 51)) :=
  ⟨hw.keep _ _ _ h (balloc (Below.refl _ _) _), balloc hV _, only_alloc (World.grownBy.refl _ _) _, Blk.new _ _ _⟩
theorem EIn.skips (hw : Walks g W H R f cap Rel) {k a : Nat} (hk : k < H) (h : EIn V w g W H c A Rel (k * W + a) wr) (n : Nat) (hn : a + n ≤ W) (hR : ∀ i, a ≤ i → i < a + n → R k i = false) : EIn V w g W H c A Rel (k * W + (a + n)) wr := by
  induction n with
  | zero => exact h
  | succ n ih =>
    have h1 := ih (by omega) (fun i h1 h2 => hR i h1 (by omega))
    exact ⟨hw.skip k (a + n) wr hk (by omega) (hR _ (by omega) (by omega)) h1.1, h1.2⟩
theorem EIn.skipTo (hw : Walks g W H R f cap Rel) {k a b : Nat} (hk : k < H) (h : EIn V w g W H c A Rel (k * W + a) wr) (hab : a ≤ b) (hb : b ≤ W) (hR : ∀ i, a ≤ i → i < b → R k i = false) : EIn V w g W H c A Rel (k * W + b) wr := by
  obtain ⟨n, rfl⟩ := Nat.exists_eq_add_of_le hab
  exact h.skips hw hk n hb hR
theorem EIn.went {p q : Nat} (hgV : V.heap.size ≤ g) (hgw : g < w.heap.size) (h : EIn V w g W H c A Rel p wr) (hr : Rel q w') (hg : wr.grownBy w' (some g)) : EIn V w g W H c A Rel q w' :=
  ⟨hr, h.2.1.grown hg h.2.1.size (fun k e => by cases e; exact hgV), gtrans h.2.2.1 hg, h.2.2.2.grown hg (by simp; omega)⟩
end
theorem row_false {W : Nat} {R : Nat → Nat → Bool} {k i : Nat} (hi : i < W) (h : inRuns (rowsOf W R k) i = false) : R k i = false := by
  rw [rowsOf_in] at h
  simpa [hi] using h
theorem row_true {W : Nat} {R : Nat → Nat → Bool} {k i : Nat} (h : inRuns (rowsOf W R k) i = true) : R k i = true := by
  rw [rowsOf_in] at h
  simp at h
  exact h.1

set_option maxRecDepth 100000 in
set_option maxHeartbeats 3200000 in
theorem each_any (V w : World) (g W H c : Nat) (A : Option Addr) (R : Nat → Nat → Bool) (f : FuncId) (cap : Array Value) (Rel : Nat → World → Prop) (hcf : ∀ (args : Array Value) (W : World), (callFunc f args).run Try.prog W = .ok (.enter f args) W)
    (hW : W ≤ 64) (hH : H ≤ 64) (hr : Rows V A H c (rowsOf W R)) (hV : Below V.heap.size V w) (hgV : V.heap.size ≤ g) (hgw : g < w.heap.size) (hw : Walks g W H R f cap Rel) (h0 : Rel 0 w) :
    Calls Try.prog 93 #[.agg #[.int .i64 (W : Int), .int .i64 (H : Int), .slice A H c], .func (.func f) #[] cap] w fun e w' => e = .returned (.tuple #[]) ∧ Rel (H * W) w' ∧ w.grownBy w' (some g) := by
  have HWK := Lib.hid hw
  have HST := Lib.hid (EIn.start (c := c) (A := A) hw h0 hV)
  have HR := Lib.hid hr
  have HGV := Lib.hid hgV
  have HGW := Lib.hid hgw
  clear hw h0 hV hr hgV hgw
  go_enter Try.func93, Try.ntmps93
  go_wp2_with fail
  go_loopw [12] (fun kv wr => ∃ k : Nat, k ≤ H ∧ kv = .int .i64 (k : Int) ∧ EIn V w g W H c A Rel (k * W) wr) (fun kv _ => H - (intOf kv).toNat)
  case atStart => exact ⟨0, by omega, rfl, by rw [Nat.zero_mul]; exact HST.out⟩
  case round =>
    clear HST
    obtain ⟨k, hk, rfl, hE⟩ := hrel
    by_cases hlt : k < H
    · have d1 : decide ((k : Int) < (H : Int)) = true := by simp; omega
      obtain ⟨a1, ha⟩ := HR.out
      obtain ⟨x, o, rfl, hx, ha⟩ := ha (by omega)
      obtain ⟨l1, A1, c1, q0, r1⟩ := ha k hlt
      have q1 := (hE.2.1.cell (p := ⟨x, o + k, none⟩) hx).trans q0
      have hmay := rowsOf_may W R k
      have hend := reach_end hmay (by omega)
      have hrun : ∀ t (h : t < (rowsOf W R k).length), ∃ a b : Nat, (rowsOf W R k)[t].1 = (a : Int) ∧ (rowsOf W R k)[t].2 = (b : Int) ∧ (reach (rowsOf W R k) t).toNat ≤ a ∧ a < b ∧ b ≤ W ∧ (reach (rowsOf W R k) (t + 1)).toNat = b ∧
          (∀ i, (reach (rowsOf W R k) t).toNat ≤ i → i < a → R k i = false) ∧ (∀ i, a ≤ i → i < b → R k i = true) := by
        intro t ht
        obtain ⟨e1, e2, e3, e4⟩ := reach_le hmay ht
        refine ⟨(rowsOf W R k)[t].1.toNat, (rowsOf W R k)[t].2.toNat, by omega, by omega, by omega, by omega, by omega, by rw [reach_succ ht], fun i h1 h2 => ?_, fun i h1 h2 => ?_⟩
        · exact row_false (by omega) (in_gap hmay (t := t) (by omega) (by omega) (fun _ => by omega))
        · exact row_true (in_run ht (by omega) (by omega))
      have hlast : ∀ i, (reach (rowsOf W R k) (rowsOf W R k).length).toNat ≤ i → i < W → R k i = false := fun i h1 h2 => row_false h2 (in_gap hmay (t := (rowsOf W R k).length) (by omega) (Nat.le_refl _) (fun h => absurd h (by omega)))
      obtain ⟨L, hL⟩ : ∃ L, rowsOf W R k = L := ⟨_, rfl⟩
      rw [hL] at l1 q0 q1 r1 hend hrun hlast
      clear hmay hL
      obtain ⟨ns, hns⟩ : ∃ ns, L.length = ns := ⟨_, rfl⟩
      rw [hns] at l1 q0 q1 r1 hend hlast
      obtain ⟨m, hm⟩ : ∃ m, k * W = m := ⟨_, rfl⟩
      have hm2 : m ≤ 4096 := by rw [← hm]; exact Nat.mul_le_mul (show k ≤ 64 by omega) (show W ≤ 64 by omega)
      have hm3 : (k : Int) * (W : Int) = (m : Int) := by rw [← hm]; push_cast; rfl
      have HE := Lib.hid hE
      have HR1 := Lib.hid r1
      have HRN := Lib.hid hrun
      have HLS := Lib.hid hlast
      have HEND := Lib.hid hend
      have HNS := Lib.hid hns
      have HM := Lib.hid hm
      clear ha a1 hE hns r1 hrun hlast q0 hend hm
      go_wp2_with fail
      go_loopw [19] (fun tv wi => ∃ t : Nat, t ≤ ns ∧ tv = .int .i64 (t : Int) ∧ EIn V w g W H c (some ⟨x, o, none⟩) Rel (k * W + (reach L t).toNat) wi) (fun tv _ => ns - (intOf tv).toNat)
      case atStart => exact ⟨0, by omega, rfl, HE.out⟩
      case round =>
        clear HE
        obtain ⟨t, ht, rfl, hE⟩ := hrel
        by_cases htl : t < ns
        · have d2 : decide ((t : Int) < (ns : Int)) = true := by simp; omega
          obtain ⟨a, b, ha, hb, h1, h2, h3, h4, h5, h6⟩ := HRN.out t (by rw [HNS.out]; exact htl)
          obtain ⟨p1, p2, p3⟩ := HR1.out.below hE.2.1
          obtain ⟨y, oy, rfl, hy, hc⟩ := p3 (by omega)
          obtain ⟨c1, c2⟩ := hc t (by rw [HNS.out]; exact htl)
          rw [ha] at c1
          rw [hb] at c2
          have hE2 : EIn V w g W H c (some ⟨x, o, none⟩) Rel (k * W + a) (wr.alloc (.cells #[.int .i64 (a : Int), .int .i64 (b : Int)] 109)) := (hE.skipTo HWK.out hlt h1 (by omega) h5).below HWK.out (by (repeat' (first | exact Below.refl _ _ | exact Below.refl _ _ | refine balloc ?_ _ | refine Below.drew ?_ | refine below_drewN ?_ _ | refine bset ?_ (by first | omega | (simp <;> omega)) _)))
          have hbx := Blk.new wr 109 #[.int .i64 (a : Int), .int .i64 (b : Int)]
          have hne : g < wr.heap.size := by have := hE.2.2.1.size; have := HGW.out; omega
          have HE2 := Lib.hid hE2
          have HBX := Lib.hid hbx
          have H4 := Lib.hid h4
          have H6 := Lib.hid h6
          clear hE hc p1 p2 p3 h1 ha hb h5 hE2 hbx h4 h6
          obtain ⟨q, hq⟩ : ∃ q, wr.heap.size = q := ⟨_, rfl⟩
          go_wp2_with fail
          rw [hq] at HBX hne
          go_loopw [8] (fun iv wn => ∃ i : Nat, a ≤ i ∧ i ≤ b ∧ iv = .int .i64 (i : Int) ∧ EIn V w g W H c (some ⟨x, o, none⟩) Rel (k * W + i) wn ∧ Blk wn q 109 #[.int .i64 (a : Int), .int .i64 (b : Int)]) (fun iv _ => b - (intOf iv).toNat)
          case atStart => exact ⟨a, by omega, by omega, rfl, HE2.out, HBX.out⟩
          case round =>
            clear HE2 HBX
            obtain ⟨i, hia, hib, rfl, hE, hbx⟩ := hrel
            have e1 := hbx.cell 1
            simp only [List.getElem?_toArray, List.getElem?_cons_succ, List.getElem?_cons_zero] at e1
            by_cases hil : i < b
            · have d3 : decide ((i : Int) < (b : Int)) = true := by simp; omega
              have e2 := hE.2.2.2.cell 0
              simp only [List.getElem?_toArray, List.getElem?_cons_succ, List.getElem?_cons_zero] at e2
              have hst := HWK.out.step k i wr hlt (by omega) (H6.out i hia hil) hE.1
              rw [HM.out, show (3 * ((m + i : Nat) : Int)) = 3 * ((m : Int) + (i : Int)) by push_cast; rfl] at hst
              have HST := Lib.hid hst
              have HE := Lib.hid hE
              have HBX := Lib.hid hbx
              clear hst hE hbx
              go_wp2_with fail
              refine HST.out.mono ?_
              rintro e_ w2 ⟨rfl, hr2, hg2⟩
              have hE3 := HE.out.went HGV.out HGW.out hr2 hg2
              have hbx3 := HBX.out.grown hg2 (by simp; omega)
              clear HST HE HBX hr2 hg2
              go_wp2_with fail
              go_roundw
              case rel => exact ⟨i + 1, by omega, by omega, by go_num, by rw [HM.out]; exact hE3, hbx3⟩
              case measure => simp [intOf]; omega
            · obtain rfl : i = b := by omega
              have d3 : decide ((i : Int) < (i : Int)) = false := by simp
              have HE := Lib.hid hE
              clear hE hbx
              go_wp2_with fail
              go_roundw
              case rel => exact ⟨t + 1, by omega, by go_num, by rw [H4.out]; exact HE.out⟩
              case measure => simp [intOf]; omega
        · obtain rfl : t = ns := by omega
          have d2 : decide ((t : Int) < (t : Int)) = false := by simp
          have hE2 := hE.skipTo HWK.out hlt (by have := HEND.out; omega) (Nat.le_refl _) HLS.out
          have HE := Lib.hid hE2
          clear hE hE2
          go_wp2_with fail
          go_roundw
          case rel => exact ⟨k + 1, by omega, by go_num, by rw [Nat.add_mul, Nat.one_mul]; exact HE.out⟩
          case measure => simp [intOf]; omega
    · obtain rfl : k = H := by omega
      have d1 : decide ((k : Int) < (k : Int)) = false := by simp
      go_wp2_with fail
      go_end0
      exact ⟨rfl, hE.1, hE.2.2.1⟩
end Go.Proofs.Ytegpjjkbbdfggaa.rg

/-
  Pages: bytes as a function; fits, copied. (PRUNE)
-/
namespace Go.Proofs.Ytegpjjkbbdfggaa.rg
set_option linter.unusedVariables false
set_option linter.unusedSimpArgs false
open Go.RowKit bs sp ik

/-- the n bytes behind A are B -/
def Pg (w : World) (A : Option Addr) (n c : Nat) (B : Nat → Int) : Prop :=
  n ≤ c ∧ ∃ b o, A = some ⟨b, o, none⟩ ∧ b < w.heap.size ∧ ∀ j, j < n → w.cell? ⟨b, o + j, none⟩ = some (.int .u8 (B j)) ∧ 0 ≤ B j ∧ B j ≤ 255
theorem Pg.below {w w' : World} {A : Option Addr} {n c : Nat} {B : Nat → Int} (h : Pg w A n c B) (hb : Below w.heap.size w w') : Pg w' A n c B := by
  obtain ⟨h1, b, o, e, hlt, hc⟩ := h
  exact ⟨h1, b, o, e, Nat.lt_of_lt_of_le hlt hb.size, fun j hj => ⟨(hb.cell (p := ⟨b, o + j, none⟩) hlt).trans (hc j hj).1, (hc j hj).2⟩⟩
theorem Pg.ext {w : World} {A : Option Addr} {n c : Nat} {B C : Nat → Int} (h : Pg w A n c B) (e : ∀ j, j < n → B j = C j) : Pg w A n c C := by
  obtain ⟨h1, b, o, ea, hlt, hc⟩ := h
  exact ⟨h1, b, o, ea, hlt, fun j hj => by rw [← e j hj]; exact hc j hj⟩
theorem Pg.bd {w : World} {A : Option Addr} {n c : Nat} {B : Nat → Int} (h : Pg w A n c B) (j : Nat) (hj : j < n) : 0 ≤ B j ∧ B j ≤ 255 := by
  obtain ⟨h1, b, o, ea, hlt, hc⟩ := h
  exact (hc j hj).2
/-- a block that holds the bytes -/
def Holds (cs : Array Value) (n : Nat) (B : Nat → Int) : Prop := n ≤ cs.size ∧ ∀ j, j < n → cs[j]? = some (.int .u8 (B j)) ∧ 0 ≤ B j ∧ B j ≤ 255
theorem Holds.pg {w : World} {g : Nat} {t : TypeId} {cs : Array Value} {n c : Nat} {B : Nat → Int} (h : Holds cs n B) (hb : Blk w g t cs) (hc : n ≤ c) : Pg w (some ⟨g, 0, none⟩) n c B :=
  ⟨hc, g, 0, rfl, hb.lt, fun j hj => ⟨by rw [Nat.zero_add, hb.cell]; exact (h.2 j hj).1, (h.2 j hj).2⟩⟩
theorem Holds.ext {cs : Array Value} {n : Nat} {B C : Nat → Int} (h : Holds cs n B) (e : ∀ j, j < n → B j = C j) : Holds cs n C :=
  ⟨h.1, fun j hj => by rw [← e j hj]; exact h.2 j hj⟩
theorem Holds.put {cs : Array Value} {n : Nat} {B : Nat → Int} (h : Holds cs n B) (k : Nat) (v : Int) (h0 : 0 ≤ v) (h1 : v ≤ 255) : Holds (cs.setIfInBounds k (.int .u8 v)) n (fun j => if j = k then v else B j) := by
  refine ⟨by simpa using h.1, fun j hj => ?_⟩
  rw [Array.getElem?_setIfInBounds]
  by_cases e : k = j
  · subst e
    have := h.1
    simp; omega
  · rw [if_neg e]
    have e2 : ¬ j = k := fun x => e x.symm
    simp only [if_neg e2]
    exact h.2 j hj
theorem page_size {W H : Nat} (hW : 1 ≤ W ∧ W ≤ 64) (hH : 1 ≤ H ∧ H ≤ 64) : 0 < 3 * (W * H) ∧ 3 * (W * H) ≤ 12288 := by
  have h1 : W * H ≤ 64 * 64 := Nat.mul_le_mul hW.2 hH.2
  have h2 : 1 * 1 ≤ W * H := Nat.mul_le_mul hW.1 hH.1
  omega
theorem pmay_yes {W H : Nat} (hW : 1 ≤ W ∧ W ≤ 64) (hH : 1 ≤ H ∧ H ≤ 64) : ik.mayB (W : Int) (H : Int) (3 * (W * H)) = true := by
  unfold ik.mayB
  rw [sideB_true (by omega) (by omega), sideB_true (by omega) (by omega)]
  simp
  push_cast
  rw [Int.mul_assoc]
theorem inkmay_yes (W H n c : Nat) (A : Option Addr) (w : World) (hW : 1 ≤ W ∧ W ≤ 64) (hH : 1 ≤ H ∧ H ≤ 64) (hn : n = 3 * (W * H)) :
    Calls Try.prog 71 #[.agg #[.int .i64 (W : Int), .int .i64 (H : Int), .slice A n c]] w fun e w' => e = .returned (.bool true) ∧ Below w.heap.size w w' := by
  have hs := page_size hW hH
  have := ik.may_any W H A n c w (by omega)
  rw [hn, pmay_yes hW hH, ← hn] at this
  exact this

set_option maxRecDepth 100000 in
set_option maxHeartbeats 1600000 in
theorem fits_yes (W H n c d : Nat) (A D : Option Addr) (R : Nat → Nat → Bool) (w : World) (hW : 1 ≤ W ∧ W ≤ 64) (hH : 1 ≤ H ∧ H ≤ 64) (hn : n = 3 * (W * H)) (hr : Rows w D H d (rowsOf W R)) :
    Calls Try.prog 91 #[.agg #[.int .i64 (W : Int), .int .i64 (H : Int), .slice A n c], .agg #[.int .i64 (W : Int), .int .i64 (H : Int), .slice D H d]] w fun e w' => e = .returned (.bool true) ∧ Below w.heap.size w w' := by
  have HM1 := Lib.hid (fun W' => inkmay_yes W H n c A W' hW hH hn)
  have HM2 := Lib.hid (fun W' (hW' : Below w.heap.size w W') => rmay_yes W H d D _ W' hW hH (fun j _ => rowsOf_mayB W R j hW.2) (hr.below hW'))
  have Kp := (Blk.new w 46 #[.int .i64 (W : Int), .int .i64 (H : Int), .slice A n c]).alloc (.cells #[.int .i64 (W : Int), .int .i64 (H : Int), .slice D H d] 51)
  have Kr := Blk.new (w.alloc (.cells #[.int .i64 (W : Int), .int .i64 (H : Int), .slice A n c] 46)) 51 #[.int .i64 (W : Int), .int .i64 (H : Int), .slice D H d]
  have s1 : ∀ (u : World) (o : Obj), (u.alloc o).heap.size = u.heap.size + 1 := fun u o => by simp
  simp only [s1] at Kr
  clear s1 hn hr hW hH
  go_enter Try.func91, Try.ntmps91
  go_wp2_with fail
  refine (HM1.out _).mono ?_
  rintro e_ w1 ⟨rfl, hb1⟩
  have hbw : Below w.heap.size w w1 := btrans (by (repeat' (first | exact Below.refl _ _ | exact Below.refl _ _ | refine balloc ?_ _ | refine Below.drew ?_ | refine below_drewN ?_ _ | refine bset ?_ (by first | omega | (simp <;> omega)) _))) hb1
  replace Kp := Kp.below hb1 (by first | (simp; done) | (simp; omega))
  replace Kr := Kr.below hb1 (by simp)
  have lp := Kp.lt
  have lr := Kr.lt
  have b0 := Kr.cell 0
  have b1 := Kr.cell 1
  have b2 := Kr.cell 2
  simp only [List.getElem?_toArray, List.getElem?_cons_succ, List.getElem?_cons_zero] at b0 b1 b2
  have HKp := Lib.hid Kp
  have HKr := Lib.hid Kr
  have HBW := Lib.hid hbw
  clear Kp Kr hbw hb1 HM1
  go_wp2_with fail
  refine (HM2.out _ HBW.out).mono ?_
  rintro e_ w2 ⟨rfl, hb1⟩
  have hbw := btrans HBW.out hb1
  have Kp := HKp.out.below hb1 lp
  have Kr := HKr.out.below hb1 lr
  clear HKp HKr HBW hb1 b0 b1 b2 lp lr HM2
  have a0 := Kp.cell 0
  have a1 := Kp.cell 1
  have b0 := Kr.cell 0
  have b1 := Kr.cell 1
  simp only [List.getElem?_toArray, List.getElem?_cons_succ, List.getElem?_cons_zero] at a0 a1 b0 b1
  have HBW := Lib.hid hbw
  clear Kp Kr hbw
  go_wp2_with fail
  go_ret
  exact ⟨rfl, HBW.out⟩

theorem Pg.reads {w : World} {A : Option Addr} {n c : Nat} {B : Nat → Int} (h : Pg w A n c B) : Reads w w.heap.size 1 A n ((List.range n).map fun j => .int .u8 (B j)) := by
  obtain ⟨h1, b, o, e, hlt, hc⟩ := h
  subst e
  refine ⟨by simp, fun _ => ⟨⟨b, o, none⟩, rfl, hlt, fun j u hu => ?_⟩⟩
  have hj : j < n := by
    rcases Nat.lt_or_ge j n with h | h
    · exact h
    · rw [List.getElem?_eq_none (by simpa using h)] at hu; cases hu
  rw [Go.WideShapes.add_plain, (hc j hj).1]
  rw [List.getElem?_map, List.getElem?_range hj] at hu
  exact hu
theorem Holds.of_take {cs : Array Value} {n : Nat} {w : World} {A : Option Addr} {c : Nat} {B : Nat → Int} (h : Pg w A n c B) (hs : n ≤ cs.size) (ht : cs.toList.take n = (List.range n).map fun j => .int .u8 (B j)) : Holds cs n B := by
  refine ⟨hs, fun j hj => ⟨?_, h.bd j hj⟩⟩
  have h2 : (cs.toList.take n)[j]? = ((List.range n).map fun j => (.int .u8 (B j) : Value))[j]? := by rw [ht]
  rw [List.getElem?_take, if_pos hj, List.getElem?_map, List.getElem?_range hj] at h2
  simpa using h2

theorem own_empty (w : World) (g base : Nat) (hg : w.heap.size = g) (h : base ≤ g) : (w.alloc (.cells #[] 5)).ownsRow base 5 1 (.slice (some ⟨g, 0, none⟩) 0 0) 0 [] := by
  subst hg
  exact   ⟨rfl, .inr ⟨w.heap.size, 0, #[], rfl, h, Blk.new _ _ _, Nat.le_refl _, by simp [maxLen], rfl, rfl⟩⟩

theorem own_out {w : World} {base n : Nat} {e : TypeId} {v : Value} {xs : List Value} (hn : 0 < n) (h : w.ownsRow base e 1 v n xs) : ∃ g d cs, v = .slice (some ⟨g, 0, none⟩) n d ∧ base ≤ g ∧ Blk w g e cs ∧ n ≤ d ∧ cs.size = d ∧ cs.toList.take n = xs := by
  obtain ⟨h1, h2⟩ := h
  rcases h2 with ⟨_, h0⟩ | ⟨g, cap, cur, h3, h4, h5, h6, h7, h8, h9⟩
  · omega
  · exact ⟨g, cap, cur, h3, h4, h5, h6, by simpa using h8, by simpa using h9⟩

theorem copied_mid {w u w1 : World} {n : Nat} {v : Value} {cp cz : Array Value} {xs : List Value} {t : TypeId} (hn : 0 < n) (hown : w1.ownsRow (w.heap.size + 1 + 1) 5 1 v (0 + n) ([] ++ xs)) (hg1 : u.grownBy w1 (some (w.heap.size + 1 + 1)))
    (hbu : Below w.heap.size w u) (Kp : Blk u w.heap.size t cp) (Kz : Blk u (w.heap.size + 1) t cz) :
    ∃ g d cs, v = .slice (some ⟨g, 0, none⟩) n d ∧ w.heap.size + 1 + 1 ≤ g ∧ Blk w1 g 5 cs ∧ n ≤ d ∧ cs.size = d ∧ cs.toList.take n = xs ∧ Below w.heap.size w w1 ∧ Blk w1 w.heap.size t cp ∧ Blk w1 (w.heap.size + 1) t cz := by
  rw [Nat.zero_add, List.nil_append] at hown
  obtain ⟨g, d, cs, hv, hg, hB, hd, hs, ht⟩ := own_out hn hown
  exact ⟨g, d, cs, hv, hg, hB, hd, hs, ht, Below.grown hbu hg1 hbu.size (fun k e => by cases e; omega), Kp.grown hg1 (by simp; omega), Kz.grown hg1 (by simp)⟩

set_option maxRecDepth 100000 in
set_option maxHeartbeats 1600000 in
theorem copied_any (W H : Int) (n c : Nat) (A : Option Addr) (B : Nat → Int) (w : World) (hn0 : 0 < n) (hn : n ≤ 12288) (hp : Pg w A n c B) :
    Calls Try.prog 92 #[.agg #[.int .i64 W, .int .i64 H, .slice A n c]] w fun e w' => ∃ g d cs, w.heap.size ≤ g ∧ e = .returned (.agg #[.int .i64 W, .int .i64 H, .slice (some ⟨g, 0, none⟩) n d]) ∧ n ≤ d ∧ Blk w' g 5 cs ∧ Holds cs n B ∧ Below w.heap.size w w' := by
  obtain ⟨hnc, b, o, rfl, hlt, hcell⟩ := id hp
  obtain ⟨i0, hi, hz0, hz1, hz2⟩ := info_parts (show (Try.prog.info? 5).map (fun i => (i.zero, i.size, i.bytes)) = some (some (.int .u8 0), 1, 1) by kernel_rfl)
  have Kp := ((Blk.new w 46 #[.int .i64 W, .int .i64 H, .slice (some ⟨b, o, none⟩) n c]).alloc (.cells #[.int .i64 0, .int .i64 0, .slice none 0 0] 46))
  have Kz := (Blk.new (w.alloc (.cells #[.int .i64 W, .int .i64 H, .slice (some ⟨b, o, none⟩) n c] 46)) 46 #[.int .i64 0, .int .i64 0, .slice none 0 0])
  have s1 : ∀ (u : World) (o : Obj), (u.alloc o).heap.size = u.heap.size + 1 := fun u o => by simp
  simp only [s1] at Kz
  have HP := Lib.hid hp
  clear s1 hp hcell
  go_enter Try.func92, Try.ntmps92
  go_wp2_with (at_builtin; refine wpList_append_any _ rfl (.tmp 3) (.tmp 5) 44 rfl (w.heap.size + 1 + 1) 5 i0 (.int .u8 0) 1 1 Try.underlying44 hi hz0 hz1 hz2 rfl (by omega) _ 0 [] rfl (own_empty _ (w.heap.size + 1 + 1) _ (by simp) (by omega)) _ (some ⟨b, o, none⟩) n c _ rfl (HP.out.below (by (repeat' (first | exact Below.refl _ _ | exact Below.refl _ _ | refine balloc ?_ _ | refine Below.drew ?_ | refine below_drewN ?_ _ | refine bset ?_ (by first | omega | (simp <;> omega)) _)))).reads (by simp [Value.oneCell']) (by simp [maxLen]; omega) (by omega) (by first | (simp; done) | (simp; omega)) ?_; intro v1 w1 hown1 hg1 _; obtain ⟨g, d, cs, hv, hg, hB, hd, hs, ht, hbw, K1, Z1⟩ := copied_mid hn0 hown1 hg1 (by (repeat' (first | exact Below.refl _ _ | exact Below.refl _ _ | refine balloc ?_ _ | refine Below.drew ?_ | refine below_drewN ?_ _ | refine bset ?_ (by first | omega | (simp <;> omega)) _))) (Kp.alloc _) (Kz.alloc _); subst hv; have k0 := K1.cell 0; have k1 := K1.cell 1; have k2 := K1.cell 2; have kf := K1.frozen 2; have z0 := Z1.cell 0; have z1 := Z1.cell 1; have z2 := Z1.cell 2; have y0 := Z1.frozen 0; have y1 := Z1.frozen 1; have y2 := Z1.frozen 2; simp only [List.getElem?_toArray, List.getElem?_cons_succ, List.getElem?_cons_zero] at k0 k1 k2 z0 z1 z2; have HK1 := Lib.hid K1; have HZ1 := Lib.hid Z1; have HB1 := Lib.hid hB; have HT := Lib.hid ht; have HBW := Lib.hid hbw; clear hg1 hown1 Kp Kz K1 Z1 hB ht hbw)
  have K := (((HZ1.out.far (p := ⟨w.heap.size, 2, none⟩) (by simp) (.slice (some ⟨g, 0, none⟩) n d)).set_ 0 (.int .i64 W)).set_ 1 (.int .i64 H)).set_ 2 (.slice (some ⟨g, 0, none⟩) n d)
  refine ret_struct1 (g := w.heap.size + 1) (t := 46) (cs := #[.int .i64 W, .int .i64 H, .slice (some ⟨g, 0, none⟩) n d]) rfl rfl ?_ Try.underlying46 rfl rfl rfl ?_
  · exact K
  · exact ⟨g, d, cs, by omega, rfl, hd, (((HB1.out.far (by simp; omega) _).far (by simp; omega) _).far (by simp; omega) _).far (by simp; omega) _, Holds.of_take HP.out (by omega) HT.out, by (repeat' (first | refine bset ?_ (by first | omega | (simp <;> omega)) _ | refine balloc ?_ _ | refine Below.drew ?_ | refine below_drewN ?_ _ | exact HBW.out | exact Below.refl _ _))⟩
end Go.Proofs.Ytegpjjkbbdfggaa.rg

/-
  Regions: made, row by row. (PRUNE)
-/
namespace Go.Proofs.Ytegpjjkbbdfggaa.rg
set_option linter.unusedVariables false
set_option linter.unusedSimpArgs false
open Go.RowKit bs sp ik

/-- a row of slices of which the first k hold the runs L -/
def Slices (w : World) (cs : Array Value) (H k : Nat) (L : Nat → List (Int × Int)) : Prop :=
  cs.size = H ∧ (∀ j, j < k → (L j).length ≤ 9223372036854775807 ∧ ∃ Aj cj, cs[j]? = some (.slice Aj (L j).length cj) ∧ Runs w Aj (L j).length cj (L j))
theorem Slices.below {w w' : World} {cs : Array Value} {H k : Nat} {L : Nat → List (Int × Int)} (h : Slices w cs H k L) (hb : Below w.heap.size w w') : Slices w' cs H k L := by
  refine ⟨h.1, fun j hj => ?_⟩
  obtain ⟨hl, Aj, cj, h1, h2⟩ := h.2 j hj
  exact ⟨hl, Aj, cj, h1, h2.below hb⟩
theorem Slices.put {w : World} {cs : Array Value} {H k : Nat} {L : Nat → List (Int × Int)} (h : Slices w cs H k L) (hk : k < H) {A : Option Addr} {c : Nat} (hl : (L k).length ≤ 9223372036854775807) (hr : Runs w A (L k).length c (L k)) :
    Slices w (cs.setIfInBounds k (.slice A (L k).length c)) H (k + 1) L := by
  refine ⟨by rw [Array.size_setIfInBounds]; exact h.1, fun j hj => ?_⟩
  by_cases e : j = k
  · subst e
    exact ⟨hl, A, c, by rw [Array.getElem?_setIfInBounds]; simp [h.1, hk], hr⟩
  · obtain ⟨hl, Aj, cj, h1, h2⟩ := h.2 j (by omega)
    exact ⟨hl, Aj, cj, by rw [Array.getElem?_setIfInBounds, if_neg (fun x => e x.symm)]; exact h1, h2⟩
theorem Slices.keep {w w' : World} {cs : Array Value} {H k : Nat} {L : Nat → List (Int × Int)} (h : Slices w cs H k L) (hc : ∀ (A : Option Addr) (n c : Nat) (l : List (Int × Int)), Runs w A n c l → Runs w' A n c l) : Slices w' cs H k L := by
  refine ⟨h.1, fun j hj => ?_⟩
  obtain ⟨hl, Aj, cj, h1, h2⟩ := h.2 j hj
  exact ⟨hl, Aj, cj, h1, hc _ _ _ _ h2⟩
theorem Runs.setSlice {w : World} {p : Addr} {A0 : Option Addr} {n0 c0 : Nat} (hp : w.cell? p = some (.slice A0 n0 c0)) (u : Value) {A : Option Addr} {n c : Nat} {l : List (Int × Int)} (h : Runs w A n c l) : Runs (w.setCell p u) A n c l := by
  obtain ⟨h1, h2, h3⟩ := h
  refine ⟨h1, h2, fun hn => ?_⟩
  obtain ⟨b, o, e, hlt, hc⟩ := h3 hn
  refine ⟨b, o, e, by simpa using hlt, fun j hj => ?_⟩
  obtain ⟨q1, q2⟩ := hc j hj
  refine ⟨?_, ?_⟩
  · rw [World.cell?_setCell_other (h := fun e => by rw [e, q1] at hp; cases hp)]; exact q1
  · rw [World.cell?_setCell_other (h := fun e => by rw [e, q2] at hp; cases hp)]; exact q2
/-- made's loop behind k rounds -/
def MRel (W0 : World) (W H : Nat) (L : Nat → List (Int × Int)) (k : Nat) (wr : World) : Prop :=
  ∃ cs, Blk wr (W0.heap.size + 1) 107 cs ∧ Slices wr cs H k L ∧ (∀ j, j < H → ∃ A n c, cs[j]? = some (.slice A n c)) ∧ Blk wr (W0.heap.size + 1 + 1) 51 #[.int .i64 (W : Int), .int .i64 (H : Int), .slice (some ⟨W0.heap.size + 1, 0, none⟩) H H] ∧
    Blk wr W0.heap.size 51 #[.int .i64 0, .int .i64 0, .slice none 0 0] ∧ Below W0.heap.size W0 wr
theorem MRel.below {W0 wr w' : World} {W H k : Nat} {L : Nat → List (Int × Int)} (h : MRel W0 W H L k wr) (hb : Below wr.heap.size wr w') : MRel W0 W H L k w' := by
  obtain ⟨cs, h1, h2, h3, h4, h5, h6⟩ := h
  exact ⟨cs, h1.below hb h1.lt, h2.below hb, h3, h4.below hb h4.lt, h5.below hb h5.lt, btrans h6 hb⟩
theorem MRel.put {W0 wr : World} {W H k : Nat} {L : Nat → List (Int × Int)} (h : MRel W0 W H L k wr) (hk : k < H) {A : Option Addr} {n c : Nat} (hn : n = (L k).length) (hl : n ≤ 9223372036854775807) (hr : Runs wr A n c (L k)) :
    MRel W0 W H L (k + 1) (wr.setCell ⟨W0.heap.size + 1, k, none⟩ (.slice A n c)) := by
  subst hn
  obtain ⟨cs, h1, h2, h3, h4, h5, h6⟩ := h
  obtain ⟨A0, n0, c0, h0⟩ := h3 k hk
  have hc : wr.cell? ⟨W0.heap.size + 1, k, none⟩ = some (.slice A0 n0 c0) := by rw [h1.cell]; exact h0
  refine ⟨_, h1.set_ k _, (h2.keep fun A n c l hr => Runs.setSlice hc _ hr).put hk hl (Runs.setSlice hc _ hr), fun j hj => ?_, h4.far (by simp) _, h5.far (by simp) _, bset h6 (by simp) _⟩
  rw [Array.getElem?_setIfInBounds]
  by_cases e : k = j
  · subst e; simp [h2.1, hk]
  · rw [if_neg e]; exact h3 j hj
theorem MRel.start (w : World) (W H : Nat) (L : Nat → List (Int × Int)) : MRel w W H L 0
    (((w.alloc (.cells #[.int .i64 0, .int .i64 0, .slice none 0 0] 51)).alloc (.cells (madeCells #[.slice none 0 0] H) 107)).alloc (.cells #[.int .i64 (W : Int), .int .i64 (H : Int), .slice (some ⟨w.heap.size + 1, 0, none⟩) H H] 51)) := by
  have b0 := Blk.new w 51 #[.int .i64 0, .int .i64 0, .slice none 0 0]
  have b1 := Blk.new (w.alloc (.cells #[.int .i64 0, .int .i64 0, .slice none 0 0] 51)) 107 (madeCells #[.slice none 0 0] H)
  have b2 := Blk.new ((w.alloc (.cells #[.int .i64 0, .int .i64 0, .slice none 0 0] 51)).alloc (.cells (madeCells #[.slice none 0 0] H) 107)) 51 #[.int .i64 (W : Int), .int .i64 (H : Int), .slice (some ⟨w.heap.size + 1, 0, none⟩) H H]
  have s1 : ∀ (u : World) (o : Obj), (u.alloc o).heap.size = u.heap.size + 1 := fun u o => by simp
  simp only [s1] at b1 b2
  refine ⟨_, b1.alloc _, ⟨size_madeCells _ _, fun j hj => absurd hj (by omega)⟩, fun j hj => ⟨none, 0, 0, by simp [madeCells, hj, Nat.mod_one]⟩, b2, (b0.alloc _).alloc _, by (repeat' (first | exact Below.refl _ _ | exact Below.refl _ _ | refine balloc ?_ _ | refine Below.drew ?_ | refine below_drewN ?_ _ | refine bset ?_ (by first | omega | (simp <;> omega)) _))⟩
theorem MRel.rows {W0 wr w' : World} {W H k : Nat} {L : Nat → List (Int × Int)} (h : MRel W0 W H L k wr) (hk : H ≤ k) (hw : ∀ (cs : Array Value), Blk wr (W0.heap.size + 1) 107 cs → Blk w' (W0.heap.size + 1) 107 cs) (hr : ∀ (j : Nat) (A : Option Addr) (n c : Nat), j < H → Runs wr A n c (L j) → Runs w' A n c (L j)) :
    Rows w' (some ⟨W0.heap.size + 1, 0, none⟩) H H L := by
  obtain ⟨cs, h1, h2, h3, h4, h5, h6⟩ := h
  have h1' := hw _ h1
  refine ⟨Nat.le_refl _, fun _ => ⟨_, 0, rfl, h1'.lt, fun j hj => ?_⟩⟩
  obtain ⟨hl, Aj, cj, q1, q2⟩ := h2.2 j (by omega)
  exact ⟨hl, Aj, cj, by rw [Nat.zero_add, h1'.cell]; exact q1, hr _ _ _ _ hj q2⟩

theorem Runs.setInt {w : World} {p : Addr} (hp : ∀ k v, w.cell? p ≠ some (.int k v)) (u : Value) {A : Option Addr} {n c : Nat} {l : List (Int × Int)} (h : Runs w A n c l) : Runs (w.setCell p u) A n c l := by
  obtain ⟨h1, h2, h3⟩ := h
  refine ⟨h1, h2, fun hn => ?_⟩
  obtain ⟨b, o, e, hlt, hc⟩ := h3 hn
  refine ⟨b, o, e, by simpa using hlt, fun j hj => ?_⟩
  obtain ⟨q1, q2⟩ := hc j hj
  refine ⟨?_, ?_⟩
  · rw [World.cell?_setCell_other (h := fun e => hp _ _ (by rw [e, q1]))]; exact q1
  · rw [World.cell?_setCell_other (h := fun e => hp _ _ (by rw [e, q2]))]; exact q2
theorem Runs.setBox {w : World} {r : Nat} {t : TypeId} {A : Option Addr} {n c : Nat} {l : List (Int × Int)} (h : Runs w A n c l) (hl : ∀ (j : Nat) (hj : j < l.length), l[j].1 < l[j].2) {A0 : Option Addr} {n0 c0 : Nat} (K : Blk w r t #[.int .i64 0, .int .i64 0, .slice A0 n0 c0]) (u0 u1 u2 : Value) :
    Runs (((w.setCell ⟨r, 0, none⟩ u0).setCell ⟨r, 1, none⟩ u1).setCell ⟨r, 2, none⟩ u2) A n c l := by
  obtain ⟨h1, h2, h3⟩ := h
  refine ⟨h1, h2, fun hn => ?_⟩
  obtain ⟨b, o, e, hlt, hc⟩ := h3 hn
  have hne : b ≠ r := by
    rintro rfl
    obtain ⟨q1, q2⟩ := hc 0 (by omega)
    have q3 := hl 0 (by omega)
    rw [K.cell] at q1 q2
    simp only [Nat.zero_mul, Nat.add_zero] at q1 q2
    rcases (show o = 0 ∨ o = 1 ∨ 2 ≤ o by omega) with rfl | rfl | h
    · simp at q1 q2
      omega
    · simp at q2
    · rw [Array.getElem?_eq_none (by simp; omega)] at q2
      cases q2
  refine ⟨b, o, e, by simpa using hlt, fun j hj => ?_⟩
  obtain ⟨q1, q2⟩ := hc j hj
  have far : ∀ (v : World) (o1 o2 : Nat) (u : Value), (v.setCell ⟨r, o1, none⟩ u).cell? ⟨b, o2, none⟩ = v.cell? ⟨b, o2, none⟩ := fun v o1 o2 u => World.cell?_setCell_other v _ _ u (fun e => hne (Addr.mk.inj e).1.symm)
  refine ⟨?_, ?_⟩ <;> rw [far, far, far]
  · exact q1
  · exact q2
theorem norm_lt (l : List (Int × Int)) (x : Int) (j : Nat) (hj : j < (norm l x).length) : (norm l x)[j].1 < (norm l x)[j].2 := (may_each (may_rl (inRuns l) _ _ (Int.le_refl _)) j hj).2.1
/-- what a cell holds -/
def got (w : World) (p : Addr) : Value := (w.cell? p).getD undef
theorem got_of {w : World} {p : Addr} {v : Value} (h : w.cell? p = some v) : w.cell? p = some (got w p) := by unfold got; rw [h]; rfl
theorem SB {W0 a : World} {p q : Addr} {v : Value} (h : Below W0.heap.size W0 a ∧ a.cell? p = some v ∧ a.cell? q = some (got a q) ∧ a.frozen? q = false) : Below W0.heap.size W0 a := h.1
theorem keepM {W0 a w' : World} {b b2 o o2 : Nat} {v : Value} (hb : Below a.heap.size a w') (h : Below W0.heap.size W0 a ∧ a.cell? ⟨b, o, none⟩ = some v ∧ a.cell? ⟨b2, o2, none⟩ = some (got a ⟨b2, o2, none⟩) ∧ a.frozen? ⟨b2, o2, none⟩ = false) :
    Below W0.heap.size W0 w' ∧ w'.cell? ⟨b, o, none⟩ = some v ∧ w'.cell? ⟨b2, o2, none⟩ = some (got w' ⟨b2, o2, none⟩) ∧ w'.frozen? ⟨b2, o2, none⟩ = false := by
  obtain ⟨h1, h2, h3, h4⟩ := h
  exact ⟨btrans h1 hb, (hb.cell (p := ⟨b, o, none⟩) (block_lt_of_cell h2)).trans h2, got_of ((hb.cell (p := ⟨b2, o2, none⟩) (block_lt_of_cell h3)).trans h3), ((bcell hb).2 _ _ (block_lt_of_cell h3)).trans h4⟩
theorem keepS {W0 a : World} {b b2 o o2 : Nat} {v : Value} (u : Value) (hlo : W0.heap.size ≤ b2) (hne : b ≠ b2) (h : Below W0.heap.size W0 a ∧ a.cell? ⟨b, o, none⟩ = some v ∧ a.cell? ⟨b2, o2, none⟩ = some (got a ⟨b2, o2, none⟩) ∧ a.frozen? ⟨b2, o2, none⟩ = false) :
    Below W0.heap.size W0 (a.setCell ⟨b2, o2, none⟩ u) ∧ (a.setCell ⟨b2, o2, none⟩ u).cell? ⟨b, o, none⟩ = some v ∧ (a.setCell ⟨b2, o2, none⟩ u).cell? ⟨b2, o2, none⟩ = some (got (a.setCell ⟨b2, o2, none⟩ u) ⟨b2, o2, none⟩) ∧ (a.setCell ⟨b2, o2, none⟩ u).frozen? ⟨b2, o2, none⟩ = false := by
  obtain ⟨h1, h2, h3, h4⟩ := h
  refine ⟨bset h1 hlo _, ?_, got_of (World.cell?_setCell_same _ _ _ h3), ?_⟩
  · rw [World.cell?_setCell_other _ _ _ _ (fun e => hne (Addr.mk.inj e).1.symm)]; exact h2
  · simpa using h4
set_option maxRecDepth 100000 in
set_option maxHeartbeats 1600000 in
theorem made_any (W H : Nat) (f : FuncId) (cap : Array Value) (L : Nat → List (Int × Int)) (w : World) (hW : 1 ≤ W ∧ W ≤ 64) (hH : 1 ≤ H ∧ H ≤ 64) (hcf : ∀ (args : Array Value) (W : World), (callFunc f args).run Try.prog W = .ok (.enter f args) W)
    (hrow : ∀ (j : Nat) (W' : World), j < H → Below w.heap.size w W' → Calls Try.prog f (#[.int .i64 (j : Int)] ++ cap) W' fun e w' => ∃ A n c, e = .returned (.slice A n c) ∧ n ≤ 9223372036854775807 ∧ Runs w' A n c (L j) ∧ Below W'.heap.size W' w') :
    Calls Try.prog 109 #[.int .i64 (W : Int), .int .i64 (H : Int), .func (.func f) #[] cap] w fun e w' => ∃ g, w.heap.size < g ∧ e = .returned (.tuple #[.agg #[.int .i64 (W : Int), .int .i64 (H : Int), .slice (some ⟨g, 0, none⟩) H H], .int .i64 0]) ∧ Rows w' (some ⟨g, 0, none⟩) H H (fun j => norm (L j) W) ∧ Below w.heap.size w w' := by
  have HS1 := Lib.hid (rside_yes W hW)
  have HS2 := Lib.hid (rside_yes H hH)
  have HROW := Lib.hid hrow
  obtain ⟨i0, hi, hz0, hz1, hz2⟩ := info_parts (show (Try.prog.info? 107).map (fun i => (i.zero, i.size, i.bytes)) = some (some (.slice none 0 0), 1, 24) by kernel_rfl)
  have hmk := fun W => run_make_rowN (P := Try.prog) 49 107 i0 (.slice none 0 0) Try.underlying49 hi hz0 .i64 .i64 H H (Nat.le_refl _) (by rw [hz2]; omega) (by omega) W
  simp only [hz1, Nat.mul_one] at hmk
  have HST := Lib.hid (MRel.start w W H (fun j => norm (L j) W))
  have hHb : (0 : Int) ≤ (H : Int) ∧ (H : Int) ≤ 64 := by omega
  obtain ⟨hHb0, hHb1⟩ := hHb
  clear hrow hW
  go_enter Try.func109, Try.ntmps109
  go_wp2_with (go_at_call 111; first | (refine (HS1.out _).mono ?_; rintro e w' ⟨rfl, rfl⟩) | (refine (HS2.out _).mono ?_; rintro e w' ⟨rfl, rfl⟩))
  clear hmk hi hz0 hz1 hz2
  go_loopw [9, 27] (fun jv kv wr => ∃ k : Nat, k ≤ H ∧ kv = .int .i64 (k : Int) ∧ MRel w W H (fun j => norm (L j) W) k wr) (fun _ kv _ => H - (intOf kv).toNat)
  case atStart => exact ⟨0, by omega, rfl, HST.out⟩
  case round =>
    clear HST
    obtain ⟨k, hk, rfl, hM⟩ := hrel
    by_cases hlt : k < H
    · have d1 : decide ((k : Int) < (H : Int)) = true := by simp; omega
      have d2 : (0 : Int) ≤ (k : Int) ∧ (k : Int) < (H : Int) := by omega
      obtain ⟨d3, d4⟩ := d2
      have hM2 := hM
      obtain ⟨cs, q1, q2, q3, q4, q5, q6⟩ := hM2
      have c1 := q4.cell 2
      obtain ⟨v0, c2⟩ : ∃ v, wr.cell? ⟨w.heap.size + 1, k, none⟩ = some v := by
        obtain ⟨A, n, c, h0⟩ := q3 k hlt
        exact ⟨_, by rw [q1.cell]; exact h0⟩
      have c3 := q1.frozen k
      simp only [List.getElem?_toArray, List.getElem?_cons_succ, List.getElem?_cons_zero] at c1
      have hbw := q6
      have HBW := Lib.hid hbw
      clear q1 q2 q3 q4 q5 q6
      go_wp2_with fail
      have HS0 : (fun wX : World => Below w.heap.size w wX ∧ wX.cell? ⟨w.heap.size + 1 + 1, 2, none⟩ = some (.slice (some ⟨w.heap.size + 1, 0, none⟩) H H) ∧ wX.cell? ⟨w.heap.size + 1, k, none⟩ = some (got wX ⟨w.heap.size + 1, k, none⟩) ∧ wX.frozen? ⟨w.heap.size + 1, k, none⟩ = false) wr.drew := ⟨Below.drew hbw, c1, got_of c2, c3⟩
      clear c1 c2 c3
      go_region_held3 (fun wX : World => Below w.heap.size w wX ∧ wX.cell? ⟨w.heap.size + 1 + 1, 2, none⟩ = some (.slice (some ⟨w.heap.size + 1, 0, none⟩) H H) ∧ wX.cell? ⟨w.heap.size + 1, k, none⟩ = some (got wX ⟨w.heap.size + 1, k, none⟩) ∧ wX.frozen? ⟨w.heap.size + 1, k, none⟩ = false) (first | exact HS0 | exact keepM (by assumption) (by assumption) | exact keepS _ (Nat.le_succ _) (by omega) (by assumption)) (first
        | (go_simp; refine (HROW.out _ _ hlt (SB (by assumption))).mono ?_; rintro e_ wa ⟨A1, n1, c1, rfl, hn1, hr1, hb1⟩)
        | (go_at_call 126; refine (norm_any A1 n1 c1 _ _ _ hr1 hn1).mono ?_; rintro e_ wb ⟨A2, c2, rfl, hr2, hb2⟩))
      have hM2 := (MRel.below (MRel.below (MRel.below hM (Below.drew (Below.refl _ _))) hb1) hb2).put hlt rfl (by have := (rl_len (inRuns (L k)) (max 0 (min (W : Int) 64)).toNat).1; show (norm (L k) W).length ≤ _; unfold norm; omega) hr2
      clear HS0 hM hr1 hr2 hb1 hb2 HBW
      go_wp2_with fail
      go_roundw
      case rel => exact ⟨k + 1, by omega, by go_num, hM2⟩
      case measure => simp [intOf]; omega
    · obtain rfl : k = H := by omega
      have d1 : decide ((k : Int) < (k : Int)) = false := by simp
      have hM2 := hM
      obtain ⟨cs, q1, q2, q3, q4, q5, q6⟩ := hM2
      have e0 := q4.cell 0
      have e1 := q4.cell 1
      have e2 := q4.cell 2
      have g0 := q5.cell 0
      have g1 := q5.cell 1
      have g2 := q5.cell 2
      have f0 := q5.frozen 0
      have f1 := q5.frozen 1
      have f2 := q5.frozen 2
      simp only [List.getElem?_toArray, List.getElem?_cons_succ, List.getElem?_cons_zero] at e0 e1 e2 g0 g1 g2
      have HM := Lib.hid hM
      have HK := Lib.hid q5
      have HBW := Lib.hid q6
      clear hM q1 q2 q3 q4 q5 q6
      go_wp2_with fail
      have K := ((HK.out.set_ 0 (.int .i64 (W : Int))).set_ 1 (.int .i64 (k : Int))).set_ 2 (.slice (some ⟨w.heap.size + 1, 0, none⟩) k k)
      refine ret_struct2 (g := w.heap.size) (t := 51) (cs := #[.int .i64 (W : Int), .int .i64 (k : Int), .slice (some ⟨w.heap.size + 1, 0, none⟩) k k]) rfl rfl ?_ Try.underlying51 rfl rfl rfl ?_
      · exact K
      · refine ⟨_, Nat.lt_succ_self _, rfl, HM.out.rows (Nat.le_refl _) (fun cs h => ((h.far (by simp) _).far (by simp) _).far (by simp) _) (fun j A n c hj h => Runs.setBox h (norm_lt _ _) HK.out _ _ _), by (repeat' (first | refine bset ?_ (by first | omega | (simp <;> omega)) _ | refine balloc ?_ _ | refine Below.drew ?_ | refine below_drewN ?_ _ | exact HBW.out | exact Below.refl _ _))⟩
end Go.Proofs.Ytegpjjkbbdfggaa.rg

/-
  Regions: both (Less, Join), Rect, All, Band. (PRUNE)
-/
namespace Go.Proofs.Ytegpjjkbbdfggaa.rg
set_option linter.unusedVariables false
set_option linter.unusedSimpArgs false
open Go.RowKit bs sp ik

theorem norm_two (h : Bool → Bool → Bool) (W : Nat) (R S : Nat → Nat → Bool) (j : Nat) (hW : W ≤ 64) : norm (two h (rowsOf W R j) (rowsOf W S j)) W = rowsOf W (fun j i => h (R j i) (S j i)) j := by
  unfold norm two rowsOf
  rw [show (max 0 (min (W : Int) 64)).toNat = W by omega]
  refine rl_ext W fun i hi => ?_
  rw [inRuns_rl, inRuns_rl, inRuns_rl]
  simp [hi, show i < 64 by omega]
theorem norm_row (W : Nat) (R : Nat → Nat → Bool) (j : Nat) (hW : W ≤ 64) : norm (rowsOf W R j) W = rowsOf W R j := by
  unfold norm rowsOf
  rw [show (max 0 (min (W : Int) 64)).toNat = W by omega]
  exact rl_again _ _
theorem two_len (h : Bool → Bool → Bool) (l m : List (Int × Int)) : (two h l m).length ≤ 64 := by unfold two; exact (rl_len _ 64).1
theorem mkfunc (fn : Fn) (first cap : Array Value) (w : World) : (Instr.makeFunc fn first cap).run Try.prog w = .ok (.func fn first cap) w := rfl
theorem keepB {W0 a w' : World} {b b2 b3 : Nat} {o2 o3 : Nat} {v v2 v3 v4 v5 : Value} {b4 b5 o4 o5 : Nat} (hb : Below a.heap.size a w') (h : Below W0.heap.size W0 a ∧ a.cell? ⟨b, 0, none⟩ = some v ∧ a.cell? ⟨b2, o2, none⟩ = some v2 ∧ a.cell? ⟨b3, o3, none⟩ = some v3 ∧ a.cell? ⟨b4, o4, none⟩ = some v4 ∧ a.cell? ⟨b5, o5, none⟩ = some v5) :
    Below W0.heap.size W0 w' ∧ w'.cell? ⟨b, 0, none⟩ = some v ∧ w'.cell? ⟨b2, o2, none⟩ = some v2 ∧ w'.cell? ⟨b3, o3, none⟩ = some v3 ∧ w'.cell? ⟨b4, o4, none⟩ = some v4 ∧ w'.cell? ⟨b5, o5, none⟩ = some v5 := by
  obtain ⟨h1, h2, h3, h4, h5, h6⟩ := h
  exact ⟨btrans h1 hb, (hb.cell (p := ⟨b, 0, none⟩) (block_lt_of_cell h2)).trans h2, (hb.cell (p := ⟨b2, o2, none⟩) (block_lt_of_cell h3)).trans h3, (hb.cell (p := ⟨b3, o3, none⟩) (block_lt_of_cell h4)).trans h4, (hb.cell (p := ⟨b4, o4, none⟩) (block_lt_of_cell h5)).trans h5, (hb.cell (p := ⟨b5, o5, none⟩) (block_lt_of_cell h6)).trans h6⟩

/-- what an operation on two lists of runs keeps: its contract -/
def TwoC (f : FuncId) (h : Bool → Bool → Bool) : Prop := ∀ (A B : Option Addr) (n c m d : Nat) (l k : List (Int × Int)) (w : World), Runs w A n c l → Runs w B m d k → n ≤ 9223372036854775807 → m ≤ 9223372036854775807 →
  Calls Try.prog f #[.slice A n c, .slice B m d] w fun e w' => ∃ A' c', e = .returned (.slice A' (two h l k).length c') ∧ Runs w' A' (two h l k).length c' (two h l k) ∧ Below w.heap.size w w'

set_option maxRecDepth 100000 in
set_option maxHeartbeats 1600000 in
theorem both1_any (f : FuncId) (h : Bool → Bool → Bool) (hcf : ∀ (args : Array Value) (W : World), (callFunc f args).run Try.prog W = .ok (.enter f args) W) (hf : TwoC f h)
    (W H hB aB bB c d j : Nat) (A B : Option Addr) (L M : Nat → List (Int × Int)) (w : World) (hH : H ≤ 64) (hj : j < H)
    (Kh : Blk w hB 131 #[.func (.func f) #[] #[]]) (Ka : Blk w aB 51 #[.int .i64 (W : Int), .int .i64 (H : Int), .slice A H c]) (Kb : Blk w bB 51 #[.int .i64 (W : Int), .int .i64 (H : Int), .slice B H d])
    (ha : Rows w A H c L) (hb : Rows w B H d M) :
    Calls Try.prog 120 #[.int .i64 (j : Int), .pointer (some ⟨hB, 0, none⟩), .pointer (some ⟨aB, 0, none⟩), .pointer (some ⟨bB, 0, none⟩)] w fun e w' => ∃ A n c, e = .returned (.slice A n c) ∧ n ≤ 9223372036854775807 ∧ Runs w' A n c (two h (L j) (M j)) ∧ Below w.heap.size w w' := by
  obtain ⟨a1, ha⟩ := ha
  obtain ⟨x, o, rfl, hx, ha⟩ := ha (by omega)
  obtain ⟨l1, A1, c1, q1, r1⟩ := ha j hj
  obtain ⟨b1, hb⟩ := hb
  obtain ⟨y, p, rfl, hy, hb⟩ := hb (by omega)
  obtain ⟨l2, A2, c2, q2, r2⟩ := hb j hj
  have d2 : (0 : Int) ≤ (j : Int) ∧ (j : Int) < (H : Int) := by omega
  obtain ⟨d3, d4⟩ := d2
  have e1 := Kh.cell 0
  have e2 := Ka.cell 2
  have e3 := Kb.cell 2
  simp only [List.getElem?_toArray, List.getElem?_cons_succ, List.getElem?_cons_zero] at e1 e2 e3
  have hlen := two_len h (L j) (M j)
  have HF := Lib.hid (fun W' (hW' : Below w.heap.size w W') => hf A1 A2 _ c1 _ c2 (L j) (M j) W' (r1.below hW') (r2.below hW') l1 l2)
  generalize (L j).length = n1 at *
  generalize (M j).length = n2 at *
  have HS0 : (fun wX : World => Below w.heap.size w wX ∧ wX.cell? ⟨hB, 0, none⟩ = some (.func (.func f) #[] #[]) ∧ wX.cell? ⟨aB, 2, none⟩ = some (.slice (some ⟨x, o, none⟩) H c) ∧ wX.cell? ⟨bB, 2, none⟩ = some (.slice (some ⟨y, p, none⟩) H d) ∧ wX.cell? ⟨x, o + j, none⟩ = some (.slice A1 n1 c1) ∧ wX.cell? ⟨y, p + j, none⟩ = some (.slice A2 n2 c2)) w.drew := ⟨Below.drew (Below.refl _ _), e1, e2, e3, q1, q2⟩
  clear ha hb a1 b1 Kh Ka Kb r1 r2 hf
  go_enter Try.func120, Try.ntmps120
  go_wp2_with fail
  clear e1 e2 e3 q1 q2
  go_region_held3 (fun wX : World => Below w.heap.size w wX ∧ wX.cell? ⟨hB, 0, none⟩ = some (.func (.func f) #[] #[]) ∧ wX.cell? ⟨aB, 2, none⟩ = some (.slice (some ⟨x, o, none⟩) H c) ∧ wX.cell? ⟨bB, 2, none⟩ = some (.slice (some ⟨y, p, none⟩) H d) ∧ wX.cell? ⟨x, o + j, none⟩ = some (.slice A1 n1 c1) ∧ wX.cell? ⟨y, p + j, none⟩ = some (.slice A2 n2 c2)) (first | exact HS0 | exact keepB (by assumption) (by assumption)) (first
    | (go_simp; refine (HF.out _ (And.left (by assumption))).mono ?_; rintro e_ wa ⟨A3, c3, rfl, hr3, hb3⟩))
  go_wp2_with fail
  go_ret
  exact ⟨_, _, _, rfl, by omega, hr3, btrans (Below.drew (Below.refl _ _)) hb3⟩

theorem rowsOf_mayAll (W H : Nat) (R : Nat → Nat → Bool) (hW : W ≤ 64) : ∀ j, j < H → mayB (rowsOf W R j) W = true := fun j _ => rowsOf_mayB W R j hW
theorem zreg (w : World) : Blk (w.alloc (.cells #[.int .i64 0, .int .i64 0, .slice none 0 0] 51)) w.heap.size 51 #[.int .i64 0, .int .i64 0, .slice none 0 0] := Blk.new _ _ _
/-- rows that a store into a region's empty box leaves alone -/
theorem Rows.setBox {w : World} {r : Nat} {t : TypeId} {g H : Nat} {W : Nat} {R : Nat → Nat → Bool} (h : Rows w (some ⟨g, 0, none⟩) H H (rowsOf W R)) (hne : g ≠ r) (K : Blk w r t #[.int .i64 0, .int .i64 0, .slice none 0 0]) (u0 u1 u2 : Value) :
    Rows (((w.setCell ⟨r, 0, none⟩ u0).setCell ⟨r, 1, none⟩ u1).setCell ⟨r, 2, none⟩ u2) (some ⟨g, 0, none⟩) H H (rowsOf W R) := by
  obtain ⟨h1, h2⟩ := h
  refine ⟨h1, fun hn => ?_⟩
  obtain ⟨b, o, e, hlt, hc⟩ := h2 hn
  cases e
  refine ⟨g, 0, rfl, by simpa using hlt, fun j hj => ?_⟩
  obtain ⟨hl, Aj, cj, q1, q2⟩ := hc j hj
  have far : ∀ (v : World) (o1 o2 : Nat) (u : Value), (v.setCell ⟨r, o1, none⟩ u).cell? ⟨g, o2, none⟩ = v.cell? ⟨g, o2, none⟩ := fun v o1 o2 u => World.cell?_setCell_other v _ _ u (fun e => hne (Addr.mk.inj e).1.symm)
  exact ⟨hl, Aj, cj, by rw [far, far, far]; exact q1, Runs.setBox q2 (fun s hs => (may_each (rowsOf_may W R j) s hs).2.1) K _ _ _⟩

set_option maxRecDepth 100000 in
set_option maxHeartbeats 3200000 in
theorem rboth_any (f : FuncId) (h : Bool → Bool → Bool) (hcf : ∀ (args : Array Value) (W : World), (callFunc f args).run Try.prog W = .ok (.enter f args) W) (hf : TwoC f h)
    (W H c d : Nat) (A B : Option Addr) (R S : Nat → Nat → Bool) (w : World) (hW : 1 ≤ W ∧ W ≤ 64) (hH : 1 ≤ H ∧ H ≤ 64) (ha : Rows w A H c (rowsOf W R)) (hb : Rows w B H d (rowsOf W S)) :
    Calls Try.prog 97 #[.agg #[.int .i64 (W : Int), .int .i64 (H : Int), .slice A H c], .agg #[.int .i64 (W : Int), .int .i64 (H : Int), .slice B H d], .func (.func f) #[] #[]] w fun e w' =>
      ∃ g, w.heap.size ≤ g ∧ e = .returned (.tuple #[.agg #[.int .i64 (W : Int), .int .i64 (H : Int), .slice (some ⟨g, 0, none⟩) H H], .int .i64 0]) ∧ Rows w' (some ⟨g, 0, none⟩) H H (rowsOf W fun j i => h (R j i) (S j i)) ∧ Below w.heap.size w w' := by
  have hmf := mkfunc
  have HM1 := Lib.hid (fun W' (hW' : Below w.heap.size w W') => rmay_yes W H c A _ W' hW hH (rowsOf_mayAll W H R hW.2) (ha.below hW'))
  have HM2 := Lib.hid (fun W' (hW' : Below w.heap.size w W') => rmay_yes W H d B _ W' hW hH (rowsOf_mayAll W H S hW.2) (hb.below hW'))
  have HA := Lib.hid ha
  have HB := Lib.hid hb
  have HW := Lib.hid hW
  have HH := Lib.hid hH
  have s1 : ∀ (u : World) (o : Obj), (u.alloc o).heap.size = u.heap.size + 1 := fun u o => by simp
  have Ka := (((Blk.new w 51 #[.int .i64 (W : Int), .int .i64 (H : Int), .slice A H c]).alloc (.cells #[.int .i64 (W : Int), .int .i64 (H : Int), .slice B H d] 51)).alloc (.cells #[.func (.func f) #[] #[]] 131)).alloc (.cells #[.int .i64 0, .int .i64 0, .slice none 0 0] 51)
  have Kb := ((Blk.new (w.alloc (.cells #[.int .i64 (W : Int), .int .i64 (H : Int), .slice A H c] 51)) 51 #[.int .i64 (W : Int), .int .i64 (H : Int), .slice B H d]).alloc (.cells #[.func (.func f) #[] #[]] 131)).alloc (.cells #[.int .i64 0, .int .i64 0, .slice none 0 0] 51)
  have Kh := (Blk.new ((w.alloc (.cells #[.int .i64 (W : Int), .int .i64 (H : Int), .slice A H c] 51)).alloc (.cells #[.int .i64 (W : Int), .int .i64 (H : Int), .slice B H d] 51)) 131 #[.func (.func f) #[] #[]]).alloc (.cells #[.int .i64 0, .int .i64 0, .slice none 0 0] 51)
  have Kr := zreg (((w.alloc (.cells #[.int .i64 (W : Int), .int .i64 (H : Int), .slice A H c] 51)).alloc (.cells #[.int .i64 (W : Int), .int .i64 (H : Int), .slice B H d] 51)).alloc (.cells #[.func (.func f) #[] #[]] 131))
  simp only [s1] at Kb Kh Kr
  clear s1 ha hb hW hH
  go_enter Try.func97, Try.ntmps97
  go_wp2_with fail
  refine (HM1.out _ (by (repeat' (first | exact Below.refl _ _ | exact Below.refl _ _ | refine balloc ?_ _ | refine Below.drew ?_ | refine below_drewN ?_ _ | refine bset ?_ (by first | omega | (simp <;> omega)) _)))).mono ?_
  rintro e_ w1 ⟨rfl, hb1⟩
  have hbw : Below w.heap.size w w1 := btrans (by (repeat' (first | exact Below.refl _ _ | exact Below.refl _ _ | refine balloc ?_ _ | refine Below.drew ?_ | refine below_drewN ?_ _ | refine bset ?_ (by first | omega | (simp <;> omega)) _))) hb1
  replace Ka := Ka.below hb1 (by first | (simp; done) | (simp; omega))
  replace Kb := Kb.below hb1 (by first | (simp; done) | (simp; omega))
  replace Kh := Kh.below hb1 (by first | (simp; done) | (simp; omega))
  replace Kr := Kr.below hb1 (by simp)
  have la := Ka.lt
  have lb := Kb.lt
  have lh := Kh.lt
  have lr := Kr.lt
  have a0 := Ka.cell 0
  have a1 := Ka.cell 1
  have a2 := Ka.cell 2
  have b0 := Kb.cell 0
  have b1 := Kb.cell 1
  have b2 := Kb.cell 2
  simp only [List.getElem?_toArray, List.getElem?_cons_succ, List.getElem?_cons_zero] at a0 a1 a2 b0 b1 b2
  have HKa := Lib.hid Ka
  have HKb := Lib.hid Kb
  have HKh := Lib.hid Kh
  have HKr := Lib.hid Kr
  have HBW := Lib.hid hbw
  clear Ka Kb Kh Kr hbw hb1 HM1
  go_wp2_with fail
  refine (HM2.out _ HBW.out).mono ?_
  rintro e_ w2 ⟨rfl, hb1⟩
  have hbw := btrans HBW.out hb1
  have Ka := HKa.out.below hb1 la
  have Kb := HKb.out.below hb1 lb
  have Kh := HKh.out.below hb1 lh
  have Kr := HKr.out.below hb1 lr
  clear HKa HKb HKh HKr HBW hb1 a0 a1 a2 b0 b1 b2 la lb lh lr HM2
  have a0 := Ka.cell 0
  have a1 := Ka.cell 1
  have b0 := Kb.cell 0
  have b1 := Kb.cell 1
  simp only [List.getElem?_toArray, List.getElem?_cons_succ, List.getElem?_cons_zero] at a0 a1 b0 b1
  have lr := Kr.lt
  have HKr := Lib.hid Kr
  have HBW := Lib.hid hbw
  have HMD := Lib.hid (fun hrow => made_any W H 120 #[.pointer (some ⟨w.heap.size + 1 + 1, 0, none⟩), .pointer (some ⟨w.heap.size, 0, none⟩), .pointer (some ⟨w.heap.size + 1, 0, none⟩)] (fun j => two h (rowsOf W R j) (rowsOf W S j)) w2 HW.out HH.out (fun args W => by kernel_rfl) hrow)
  have HROW := Lib.hid (fun (j : Nat) (W' : World) (hj : j < H) (hW' : Below w2.heap.size w2 W') => both1_any f h hcf hf W H (w.heap.size + 1 + 1) w.heap.size (w.heap.size + 1) c d j A B (rowsOf W R) (rowsOf W S) W' HH.out.2 hj (Kh.below hW' Kh.lt) (Ka.below hW' Ka.lt) (Kb.below hW' Kb.lt) (HA.out.below (btrans hbw hW')) (HB.out.below (btrans hbw hW')))
  clear Ka Kb Kh Kr hbw hf
  go_wp2_with fail
  refine (HMD.out HROW.out).mono ?_
  rintro e_ w3 ⟨g, hg, rfl, hr3, hb1⟩
  have hsz := HBW.out.size
  have hr4 : Rows w3 (some ⟨g, 0, none⟩) H H (rowsOf W fun j i => h (R j i) (S j i)) := hr3.ext fun j _ => norm_two h W R S j HW.out.2
  have Kr := HKr.out.below hb1 lr
  have hbw := btrans HBW.out hb1
  clear hr3 hb1 HKr HBW HMD HROW
  have g0 := Kr.cell 0
  have g1 := Kr.cell 1
  have g2 := Kr.cell 2
  have f0 := Kr.frozen 0
  have f1 := Kr.frozen 1
  have f2 := Kr.frozen 2
  simp only [List.getElem?_toArray, List.getElem?_cons_succ, List.getElem?_cons_zero] at g0 g1 g2
  have HKr := Lib.hid Kr
  have HBW := Lib.hid hbw
  have HR4 := Lib.hid hr4
  clear Kr hbw hr4
  go_wp2_with fail
  have K := ((HKr.out.set_ 0 (.int .i64 (W : Int))).set_ 1 (.int .i64 (H : Int))).set_ 2 (.slice (some ⟨g, 0, none⟩) H H)
  refine ret_struct2 (g := w.heap.size + 1 + 1 + 1) (t := 51) (cs := #[.int .i64 (W : Int), .int .i64 (H : Int), .slice (some ⟨g, 0, none⟩) H H]) rfl rfl ?_ Try.underlying51 rfl rfl rfl ?_
  · exact K
  · exact ⟨g, by omega, rfl, Rows.setBox HR4.out (by omega) HKr.out _ _ _, by (repeat' (first | refine bset ?_ (by first | omega | (simp <;> omega)) _ | refine balloc ?_ _ | refine Below.drew ?_ | refine below_drewN ?_ _ | exact HBW.out | exact Below.refl _ _))⟩
end Go.Proofs.Ytegpjjkbbdfggaa.rg

/-
  Regions: Less, Join, Rect, All, one, Band. (PRUNE)
-/
namespace Go.Proofs.Ytegpjjkbbdfggaa.rg
set_option linter.unusedVariables false
set_option linter.unusedSimpArgs false
open Go.RowKit bs sp ik

set_option maxRecDepth 100000 in
set_option maxHeartbeats 3200000 in
theorem rless_any (W H c d : Nat) (A B : Option Addr) (R S : Nat → Nat → Bool) (w : World) (hW : 1 ≤ W ∧ W ≤ 64) (hH : 1 ≤ H ∧ H ≤ 64) (ha : Rows w A H c (rowsOf W R)) (hb : Rows w B H d (rowsOf W S)) :
    Calls Try.prog 51 #[.agg #[.int .i64 (W : Int), .int .i64 (H : Int), .slice A H c], .agg #[.int .i64 (W : Int), .int .i64 (H : Int), .slice B H d]] w fun e w' =>
      ∃ g, w.heap.size ≤ g ∧ e = .returned (.tuple #[.agg #[.int .i64 (W : Int), .int .i64 (H : Int), .slice (some ⟨g, 0, none⟩) H H], .int .i64 0]) ∧ Rows w' (some ⟨g, 0, none⟩) H H (rowsOf W (fun j i => R j i && !S j i)) ∧ Below w.heap.size w w' := by
  have HB2 := Lib.hid (fun W' (hW' : Below w.heap.size w W') => rboth_any 98 (fun x y => x && !y) (fun args W => by kernel_rfl) (fun A B n c m d l k w hl hk hn hm => less_any A B n c m d l k w hl hk hn hm) W H c d A B R S W' hW hH (ha.below hW') (hb.below hW'))
  have Kr := zreg ((w.alloc (.cells #[.int .i64 (W : Int), .int .i64 (H : Int), .slice A H c] 51)).alloc (.cells #[.int .i64 (W : Int), .int .i64 (H : Int), .slice B H d] 51))
  have s1 : ∀ (u : World) (o : Obj), (u.alloc o).heap.size = u.heap.size + 1 := fun u o => by simp
  simp only [s1] at Kr
  clear s1 ha hb hW hH
  go_enter Try.func51, Try.ntmps51
  go_wp2_with fail
  refine (HB2.out _ (by (repeat' (first | exact Below.refl _ _ | exact Below.refl _ _ | refine balloc ?_ _ | refine Below.drew ?_ | refine below_drewN ?_ _ | refine bset ?_ (by first | omega | (simp <;> omega)) _)))).mono ?_
  rintro e_ w3 ⟨g, hg, rfl, hr4, hb1⟩
  have hgne : g ≠ w.heap.size + 1 + 1 := by simp at hg; omega
  have hg2 : w.heap.size ≤ g := by simp at hg; omega
  have hbw : Below w.heap.size w w3 := btrans (by (repeat' (first | exact Below.refl _ _ | exact Below.refl _ _ | refine balloc ?_ _ | refine Below.drew ?_ | refine below_drewN ?_ _ | refine bset ?_ (by first | omega | (simp <;> omega)) _))) hb1
  replace Kr := Kr.below hb1 (by first | (simp; done) | (simp; omega))
  clear hg hb1 HB2
  have g0 := Kr.cell 0
  have g1 := Kr.cell 1
  have g2 := Kr.cell 2
  have f0 := Kr.frozen 0
  have f1 := Kr.frozen 1
  have f2 := Kr.frozen 2
  simp only [List.getElem?_toArray, List.getElem?_cons_succ, List.getElem?_cons_zero] at g0 g1 g2
  have HKr := Lib.hid Kr
  have HBW := Lib.hid hbw
  have HR4 := Lib.hid hr4
  clear Kr hbw hr4
  go_wp2_with fail
  have K := ((HKr.out.set_ 0 (.int .i64 (W : Int))).set_ 1 (.int .i64 (H : Int))).set_ 2 (.slice (some ⟨g, 0, none⟩) H H)
  refine ret_struct2 (g := w.heap.size + 1 + 1) (t := 51) (cs := #[.int .i64 (W : Int), .int .i64 (H : Int), .slice (some ⟨g, 0, none⟩) H H]) rfl rfl ?_ Try.underlying51 rfl rfl rfl ?_
  · exact K
  · exact ⟨g, by omega, rfl, Rows.setBox HR4.out hgne HKr.out _ _ _, by (repeat' (first | refine bset ?_ (by first | omega | (simp <;> omega)) _ | refine balloc ?_ _ | refine Below.drew ?_ | refine below_drewN ?_ _ | exact HBW.out | exact Below.refl _ _))⟩
theorem Runs.litR (w : World) (l : List (Int × Int)) (t : TypeId) (c : Nat) (hc : l.length ≤ c) : Runs (w.alloc (.cells (flat l).toArray t)) (some ⟨w.heap.size, 0, none⟩) l.length c l := by
  have K := Blk.new w t (flat l).toArray
  refine ⟨rfl, hc, fun _ => ⟨w.heap.size, 0, rfl, K.lt, fun j hj => ?_⟩⟩
  obtain ⟨e1, e2⟩ := flat_get l j hj
  rw [K.cell, K.cell]
  simp only [Nat.zero_add, List.getElem?_toArray]
  exact ⟨e1, e2⟩
/-- a row of a rectangle -/
def rectRow (x0 y0 x1 y1 : Int) (j : Nat) : List (Int × Int) := if (j : Int) < y0 ∨ y1 ≤ (j : Int) then [] else [(x0, x1)]
theorem rectRow_out {x0 y0 x1 y1 : Int} {j : Nat} (h : (j : Int) < y0 ∨ y1 ≤ (j : Int)) : rectRow x0 y0 x1 y1 j = [] := if_pos h
theorem rectRow_in {x0 y0 x1 y1 : Int} {j : Nat} (h : ¬ ((j : Int) < y0 ∨ y1 ≤ (j : Int))) : rectRow x0 y0 x1 y1 j = [(x0, x1)] := if_neg h
/-- a rectangle's pixels -/
def rectSet (x0 y0 x1 y1 : Int) (j i : Nat) : Bool := decide (y0 ≤ (j : Int)) && decide ((j : Int) < y1) && (decide (x0 ≤ (i : Int)) && decide ((i : Int) < x1))
theorem norm_rect (W : Nat) (x0 y0 x1 y1 : Int) (j : Nat) (hW : W ≤ 64) : norm (rectRow x0 y0 x1 y1 j) W = rowsOf W (rectSet x0 y0 x1 y1) j := by
  unfold norm rowsOf
  rw [show (max 0 (min (W : Int) 64)).toNat = W by omega]
  refine rl_ext W fun i hi => ?_
  unfold rectSet
  by_cases h : (j : Int) < y0 ∨ y1 ≤ (j : Int)
  · rw [rectRow_out h]
    have e : (decide (y0 ≤ (j : Int)) && decide ((j : Int) < y1)) = false := by simp; omega
    rw [e]
    simp [inRuns]
  · rw [rectRow_in h]
    have e : (decide (y0 ≤ (j : Int)) && decide ((j : Int) < y1)) = true := by simp; omega
    rw [e]
    simp [inRuns]
set_option maxRecDepth 100000 in
set_option maxHeartbeats 3200000 in
theorem rect1_any (H xB zB yB tB j : Nat) (x0 y0 x1 y1 : Int) (w : World) (hj : j < H) (hH : H ≤ 64)
    (Kx : Blk w xB 3 #[.int .i64 x0]) (Kz : Blk w zB 3 #[.int .i64 y0]) (Ky : Blk w yB 3 #[.int .i64 x1]) (Kt : Blk w tB 3 #[.int .i64 y1]) :
    Calls Try.prog 110 #[.int .i64 (j : Int), .pointer (some ⟨zB, 0, none⟩), .pointer (some ⟨tB, 0, none⟩), .pointer (some ⟨xB, 0, none⟩), .pointer (some ⟨yB, 0, none⟩)] w fun e w' => ∃ A n c, e = .returned (.slice A n c) ∧ n ≤ 9223372036854775807 ∧ Runs w' A n c (rectRow x0 y0 x1 y1 j) ∧ Below w.heap.size w w' := by
  have e1 := Kx.cell 0
  have e2 := Kz.cell 0
  have e3 := Ky.cell 0
  have e4 := Kt.cell 0
  simp only [List.getElem?_toArray, List.getElem?_cons_succ, List.getElem?_cons_zero] at e1 e2 e3 e4
  clear Kx Kz Ky Kt
  by_cases h1 : (j : Int) < y0
  · have d1 : decide ((j : Int) < y0) = true := by simp; omega
    go_enter Try.func110, Try.ntmps110
    go_wp2_with fail
    go_ret
    rw [rectRow_out (Or.inl h1)]
    exact ⟨_, _, _, rfl, by omega, ⟨rfl, Nat.le_refl _, fun h => absurd h (by simp)⟩, by (repeat' (first | exact Below.refl _ _ | exact Below.refl _ _ | refine balloc ?_ _ | refine Below.drew ?_ | refine below_drewN ?_ _ | refine bset ?_ (by first | omega | (simp <;> omega)) _))⟩
  · have d1 : decide ((j : Int) < y0) = false := by simp; omega
    by_cases h2 : y1 ≤ (j : Int)
    · have d2 : decide (y1 ≤ (j : Int)) = true := by simp; omega
      go_enter Try.func110, Try.ntmps110
      go_wp2_with fail
      go_ret
      rw [rectRow_out (Or.inr h2)]
      exact ⟨_, _, _, rfl, by omega, ⟨rfl, Nat.le_refl _, fun h => absurd h (by simp)⟩, by (repeat' (first | exact Below.refl _ _ | exact Below.refl _ _ | refine balloc ?_ _ | refine Below.drew ?_ | refine below_drewN ?_ _ | refine bset ?_ (by first | omega | (simp <;> omega)) _))⟩
    · have d2 : decide (y1 ≤ (j : Int)) = false := by simp; omega
      go_enter Try.func110, Try.ntmps110
      go_wp2_with fail
      go_ret
      rw [rectRow_in (by omega)]
      refine ⟨_, _, _, rfl, by omega, by simpa [flat] using Runs.litR _ [(x0, x1)] 109 1 (Nat.le_refl _), by (repeat' (first | exact Below.refl _ _ | exact Below.refl _ _ | refine balloc ?_ _ | refine Below.drew ?_ | refine below_drewN ?_ _ | refine bset ?_ (by first | omega | (simp <;> omega)) _))⟩
set_option maxRecDepth 100000 in
set_option maxHeartbeats 3200000 in
theorem rrect_any (W H : Nat) (x0 y0 x1 y1 : Int) (w : World) (hW : 1 ≤ W ∧ W ≤ 64) (hH : 1 ≤ H ∧ H ≤ 64) :
    Calls Try.prog 70 #[.int .i64 (W : Int), .int .i64 (H : Int), .int .i64 x0, .int .i64 y0, .int .i64 x1, .int .i64 y1] w fun e w' =>
      ∃ g, w.heap.size ≤ g ∧ e = .returned (.tuple #[.agg #[.int .i64 (W : Int), .int .i64 (H : Int), .slice (some ⟨g, 0, none⟩) H H], .int .i64 0]) ∧ Rows w' (some ⟨g, 0, none⟩) H H (rowsOf W (rectSet x0 y0 x1 y1)) ∧ Below w.heap.size w w' := by
  have hmf := mkfunc
  have s1 : ∀ (u : World) (o : Obj), (u.alloc o).heap.size = u.heap.size + 1 := fun u o => by simp
  have KX := ((((Blk.new (w) 3 #[.int .i64 x0]).alloc (.cells #[.int .i64 y0] 3)).alloc (.cells #[.int .i64 x1] 3)).alloc (.cells #[.int .i64 y1] 3)).alloc (.cells #[.int .i64 0, .int .i64 0, .slice none 0 0] 51)
  have KZ := (((Blk.new ((w.alloc (.cells #[.int .i64 x0] 3))) 3 #[.int .i64 y0]).alloc (.cells #[.int .i64 x1] 3)).alloc (.cells #[.int .i64 y1] 3)).alloc (.cells #[.int .i64 0, .int .i64 0, .slice none 0 0] 51)
  have KY := ((Blk.new (((w.alloc (.cells #[.int .i64 x0] 3)).alloc (.cells #[.int .i64 y0] 3))) 3 #[.int .i64 x1]).alloc (.cells #[.int .i64 y1] 3)).alloc (.cells #[.int .i64 0, .int .i64 0, .slice none 0 0] 51)
  have KT := (Blk.new ((((w.alloc (.cells #[.int .i64 x0] 3)).alloc (.cells #[.int .i64 y0] 3)).alloc (.cells #[.int .i64 x1] 3))) 3 #[.int .i64 y1]).alloc (.cells #[.int .i64 0, .int .i64 0, .slice none 0 0] 51)
  have Kr := zreg (((((w.alloc (.cells #[.int .i64 x0] 3)).alloc (.cells #[.int .i64 y0] 3)).alloc (.cells #[.int .i64 x1] 3)).alloc (.cells #[.int .i64 y1] 3)))
  simp only [s1] at KX KZ KY KT Kr
  have HW := Lib.hid hW
  have HH := Lib.hid hH
  have lX := KX.lt
  have lZ := KZ.lt
  have lY := KY.lt
  have lT := KT.lt
  have HX := Lib.hid KX
  have HZ := Lib.hid KZ
  have HY := Lib.hid KY
  have HT := Lib.hid KT
  clear s1 hW hH KX KZ KY KT
  have HMD := Lib.hid (fun W' hrow => made_any W H 110 #[.pointer (some ⟨w.heap.size + 1, 0, none⟩), .pointer (some ⟨w.heap.size + 1 + 1 + 1, 0, none⟩), .pointer (some ⟨w.heap.size, 0, none⟩), .pointer (some ⟨w.heap.size + 1 + 1, 0, none⟩)] (fun j => rectRow x0 y0 x1 y1 j) W' HW.out HH.out (fun args W => by kernel_rfl) hrow)
  go_enter Try.func70, Try.ntmps70
  go_wp2_with fail
  refine (HMD.out _ (fun j W' hj hW' => rect1_any H (w.heap.size) (w.heap.size + 1) (w.heap.size + 1 + 1) (w.heap.size + 1 + 1 + 1) j x0 y0 x1 y1 W' hj HH.out.2 (HX.out.below hW' lX) (HZ.out.below hW' lZ) (HY.out.below hW' lY) (HT.out.below hW' lT))).mono ?_
  rintro e_ w3 ⟨g, hg, rfl, hr3, hb1⟩
  have hr4 : Rows w3 (some ⟨g, 0, none⟩) H H (rowsOf W (rectSet x0 y0 x1 y1)) := hr3.ext fun j _ => norm_rect W x0 y0 x1 y1 j HW.out.2
  have hgne : g ≠ w.heap.size + 1 + 1 + 1 + 1 := by simp at hg; omega
  have hg2 : w.heap.size ≤ g := by simp at hg; omega
  have hbw : Below w.heap.size w w3 := btrans (by (repeat' (first | exact Below.refl _ _ | exact Below.refl _ _ | refine balloc ?_ _ | refine Below.drew ?_ | refine below_drewN ?_ _ | refine bset ?_ (by first | omega | (simp <;> omega)) _))) hb1
  replace Kr := Kr.below hb1 (by first | (simp; done) | (simp; omega))
  clear hg hb1 HMD hr3 HX HZ HY HT lX lZ lY lT
  have g0 := Kr.cell 0
  have g1 := Kr.cell 1
  have g2 := Kr.cell 2
  have f0 := Kr.frozen 0
  have f1 := Kr.frozen 1
  have f2 := Kr.frozen 2
  simp only [List.getElem?_toArray, List.getElem?_cons_succ, List.getElem?_cons_zero] at g0 g1 g2
  have HKr := Lib.hid Kr
  have HBW := Lib.hid hbw
  have HR4 := Lib.hid hr4
  clear Kr hbw hr4
  go_wp2_with fail
  have K := ((HKr.out.set_ 0 (.int .i64 (W : Int))).set_ 1 (.int .i64 (H : Int))).set_ 2 (.slice (some ⟨g, 0, none⟩) H H)
  refine ret_struct2 (g := w.heap.size + 1 + 1 + 1 + 1) (t := 51) (cs := #[.int .i64 (W : Int), .int .i64 (H : Int), .slice (some ⟨g, 0, none⟩) H H]) rfl rfl ?_ Try.underlying51 rfl rfl rfl ?_
  · exact K
  · exact ⟨g, by omega, rfl, Rows.setBox HR4.out hgne HKr.out _ _ _, by (repeat' (first | refine bset ?_ (by first | omega | (simp <;> omega)) _ | refine balloc ?_ _ | refine Below.drew ?_ | refine below_drewN ?_ _ | exact HBW.out | exact Below.refl _ _))⟩
set_option maxRecDepth 100000 in
set_option maxHeartbeats 3200000 in
theorem rall_any (W H : Nat) (w : World) (hW : 1 ≤ W ∧ W ≤ 64) (hH : 1 ≤ H ∧ H ≤ 64) :
    Calls Try.prog 30 #[.int .i64 (W : Int), .int .i64 (H : Int)] w fun e w' =>
      ∃ g, w.heap.size ≤ g ∧ e = .returned (.tuple #[.agg #[.int .i64 (W : Int), .int .i64 (H : Int), .slice (some ⟨g, 0, none⟩) H H], .int .i64 0]) ∧ Rows w' (some ⟨g, 0, none⟩) H H (rowsOf W (fun _ _ => true)) ∧ Below w.heap.size w w' := by
  have HRC := Lib.hid (fun W' => rrect_any W H 0 0 W H W' hW hH)
  have Kr := zreg w
  clear hW hH
  go_enter Try.func30, Try.ntmps30
  go_wp2_with fail
  refine (HRC.out _).mono ?_
  rintro e_ w3 ⟨g, hg, rfl, hr4, hb1⟩
  replace hr4 : Rows w3 (some ⟨g, 0, none⟩) H H (rowsOf W (fun _ _ => true)) := hr4.ext fun j hj => rowsOf_ext fun i hi => by unfold rectSet; simp; omega
  have hgne : g ≠ w.heap.size := by simp at hg; omega
  have hg2 : w.heap.size ≤ g := by simp at hg; omega
  have hbw : Below w.heap.size w w3 := btrans (by (repeat' (first | exact Below.refl _ _ | exact Below.refl _ _ | refine balloc ?_ _ | refine Below.drew ?_ | refine below_drewN ?_ _ | refine bset ?_ (by first | omega | (simp <;> omega)) _))) hb1
  replace Kr := Kr.below hb1 (by first | (simp; done) | (simp; omega))
  clear hg hb1 HRC
  have g0 := Kr.cell 0
  have g1 := Kr.cell 1
  have g2 := Kr.cell 2
  have f0 := Kr.frozen 0
  have f1 := Kr.frozen 1
  have f2 := Kr.frozen 2
  simp only [List.getElem?_toArray, List.getElem?_cons_succ, List.getElem?_cons_zero] at g0 g1 g2
  have HKr := Lib.hid Kr
  have HBW := Lib.hid hbw
  have HR4 := Lib.hid hr4
  clear Kr hbw hr4
  go_wp2_with fail
  have K := ((HKr.out.set_ 0 (.int .i64 (W : Int))).set_ 1 (.int .i64 (H : Int))).set_ 2 (.slice (some ⟨g, 0, none⟩) H H)
  refine ret_struct2 (g := w.heap.size) (t := 51) (cs := #[.int .i64 (W : Int), .int .i64 (H : Int), .slice (some ⟨g, 0, none⟩) H H]) rfl rfl ?_ Try.underlying51 rfl rfl rfl ?_
  · exact K
  · exact ⟨g, by omega, rfl, Rows.setBox HR4.out hgne HKr.out _ _ _, by (repeat' (first | refine bset ?_ (by first | omega | (simp <;> omega)) _ | refine balloc ?_ _ | refine Below.drew ?_ | refine below_drewN ?_ _ | exact HBW.out | exact Below.refl _ _))⟩
set_option maxRecDepth 100000 in
set_option maxHeartbeats 3200000 in
theorem band1_any (W H fB oB rB c j : Nat) (lo hi : Int) (A : Option Addr) (R : Nat → Nat → Bool) (w : World) (hj : j < H) (hH : H ≤ 64)
    (Kf : Blk w fB 3 #[.int .i64 lo]) (Kt : Blk w oB 3 #[.int .i64 hi]) (Kr : Blk w rB 51 #[.int .i64 (W : Int), .int .i64 (H : Int), .slice A H c]) (hr : Rows w A H c (rowsOf W R)) :
    Calls Try.prog 90 #[.int .i64 (j : Int), .pointer (some ⟨fB, 0, none⟩), .pointer (some ⟨oB, 0, none⟩), .pointer (some ⟨rB, 0, none⟩)] w fun e w' => ∃ A n c, e = .returned (.slice A n c) ∧ n ≤ 9223372036854775807 ∧ Runs w' A n c (if (j : Int) < lo ∨ hi ≤ (j : Int) then [] else rowsOf W R j) ∧ Below w.heap.size w w' := by
  have e1 := Kf.cell 0
  have e2 := Kt.cell 0
  have e3 := Kr.cell 2
  simp only [List.getElem?_toArray, List.getElem?_cons_succ, List.getElem?_cons_zero] at e1 e2 e3
  clear Kf Kt Kr
  generalize hif : (if (j : Int) < lo ∨ hi ≤ (j : Int) then [] else rowsOf W R j) = L
  by_cases h1 : (j : Int) < lo
  · have d1 : decide ((j : Int) < lo) = true := by simp; omega
    rw [if_pos (Or.inl h1)] at hif
    subst hif
    go_enter Try.func90, Try.ntmps90
    go_wp2_with fail
    go_ret
    exact ⟨_, _, _, rfl, by omega, ⟨rfl, Nat.le_refl _, fun h => absurd h (by simp)⟩, by (repeat' (first | exact Below.refl _ _ | exact Below.refl _ _ | refine balloc ?_ _ | refine Below.drew ?_ | refine below_drewN ?_ _ | refine bset ?_ (by first | omega | (simp <;> omega)) _))⟩
  · have d1 : decide ((j : Int) < lo) = false := by simp; omega
    by_cases h2 : hi ≤ (j : Int)
    · have d2 : decide (hi ≤ (j : Int)) = true := by simp; omega
      rw [if_pos (Or.inr h2)] at hif
      subst hif
      go_enter Try.func90, Try.ntmps90
      go_wp2_with fail
      go_ret
      exact ⟨_, _, _, rfl, by omega, ⟨rfl, Nat.le_refl _, fun h => absurd h (by simp)⟩, by (repeat' (first | exact Below.refl _ _ | exact Below.refl _ _ | refine balloc ?_ _ | refine Below.drew ?_ | refine below_drewN ?_ _ | refine bset ?_ (by first | omega | (simp <;> omega)) _))⟩
    · have d2 : decide (hi ≤ (j : Int)) = false := by simp; omega
      rw [if_neg (by omega)] at hif
      subst hif
      obtain ⟨a1, ha⟩ := hr
      obtain ⟨x, o, rfl, hx, ha⟩ := ha (by omega)
      obtain ⟨l1, A1, c1, q1, r1⟩ := ha j hj
      have d5 : (0 : Int) ≤ (j : Int) ∧ (j : Int) < (H : Int) := by omega
      obtain ⟨d3, d4⟩ := d5
      have HR1 := Lib.hid r1
      have HL1 := Lib.hid l1
      clear ha a1 r1 l1
      go_enter Try.func90, Try.ntmps90
      go_wp2_with fail
      go_ret
      exact ⟨_, _, _, rfl, HL1.out, HR1.out, by (repeat' (first | exact Below.refl _ _ | exact Below.refl _ _ | refine balloc ?_ _ | refine Below.drew ?_ | refine below_drewN ?_ _ | refine bset ?_ (by first | omega | (simp <;> omega)) _))⟩
theorem norm_band (W : Nat) (lo hi : Int) (R : Nat → Nat → Bool) (j : Nat) (hW : W ≤ 64) : norm (if (j : Int) < lo ∨ hi ≤ (j : Int) then [] else rowsOf W R j) W = rowsOf W (fun j i => decide (lo ≤ (j : Int)) && decide ((j : Int) < hi) && R j i) j := by
  by_cases h : (j : Int) < lo ∨ hi ≤ (j : Int)
  · rw [if_pos h]
    unfold norm rowsOf
    rw [show (max 0 (min (W : Int) 64)).toNat = W by omega]
    refine rl_ext W fun i hi0 => ?_
    have e : (decide (lo ≤ (j : Int)) && decide ((j : Int) < hi)) = false := by simp; omega
    simp only [e]
    simp only [Bool.false_and]
    rfl
  · rw [if_neg h, norm_row W R j hW]
    refine rowsOf_ext fun i hi0 => ?_
    have e : (decide (lo ≤ (j : Int)) && decide ((j : Int) < hi)) = true := by simp; omega
    simp only [e, Bool.true_and]
set_option maxRecDepth 100000 in
set_option maxHeartbeats 3200000 in
theorem rone_any (f : FuncId) (cap : Array Value) (W H c : Nat) (A : Option Addr) (R : Nat → Nat → Bool) (L : Nat → List (Int × Int)) (S : Nat → Nat → Bool) (w : World) (hW : 1 ≤ W ∧ W ≤ 64) (hH : 1 ≤ H ∧ H ≤ 64) (hr : Rows w A H c (rowsOf W R)) (hcf : ∀ (args : Array Value) (W : World), (callFunc f args).run Try.prog W = .ok (.enter f args) W)
    (hrow : ∀ (j : Nat) (W' : World), j < H → Below w.heap.size w W' → Calls Try.prog f (#[.int .i64 (j : Int)] ++ cap) W' fun e w' => ∃ A n c, e = .returned (.slice A n c) ∧ n ≤ 9223372036854775807 ∧ Runs w' A n c (L j) ∧ Below W'.heap.size W' w') (hL : ∀ j, norm (L j) W = rowsOf W S j) :
    Calls Try.prog 89 #[.agg #[.int .i64 (W : Int), .int .i64 (H : Int), .slice A H c], .func (.func f) #[] cap] w fun e w' =>
      ∃ g, w.heap.size ≤ g ∧ e = .returned (.tuple #[.agg #[.int .i64 (W : Int), .int .i64 (H : Int), .slice (some ⟨g, 0, none⟩) H H], .int .i64 0]) ∧ Rows w' (some ⟨g, 0, none⟩) H H (rowsOf W S) ∧ Below w.heap.size w w' := by
  have HM1 := Lib.hid (fun W' (hW' : Below w.heap.size w W') => rmay_yes W H c A _ W' hW hH (rowsOf_mayAll W H R hW.2) (hr.below hW'))
  have HMD := Lib.hid (fun W' hrow => made_any W H f cap L W' hW hH hcf hrow)
  have HROW := Lib.hid hrow
  have HL := Lib.hid hL
  have Ka := (Blk.new w 51 #[.int .i64 (W : Int), .int .i64 (H : Int), .slice A H c]).alloc (.cells #[.int .i64 0, .int .i64 0, .slice none 0 0] 51)
  have Kr := zreg (w.alloc (.cells #[.int .i64 (W : Int), .int .i64 (H : Int), .slice A H c] 51))
  have s1 : ∀ (u : World) (o : Obj), (u.alloc o).heap.size = u.heap.size + 1 := fun u o => by simp
  simp only [s1] at Kr
  clear s1 hr hW hH hrow hcf hL
  go_enter Try.func89, Try.ntmps89
  go_wp2_with fail
  refine (HM1.out _ (by (repeat' (first | exact Below.refl _ _ | exact Below.refl _ _ | refine balloc ?_ _ | refine Below.drew ?_ | refine below_drewN ?_ _ | refine bset ?_ (by first | omega | (simp <;> omega)) _)))).mono ?_
  rintro e_ w1 ⟨rfl, hb1⟩
  have hbw : Below w.heap.size w w1 := btrans (by (repeat' (first | exact Below.refl _ _ | exact Below.refl _ _ | refine balloc ?_ _ | refine Below.drew ?_ | refine below_drewN ?_ _ | refine bset ?_ (by first | omega | (simp <;> omega)) _))) hb1
  replace Ka := Ka.below hb1 (by first | (simp; done) | (simp; omega))
  replace Kr := Kr.below hb1 (by first | (simp; done) | (simp; omega))
  have lr := Kr.lt
  have a0 := Ka.cell 0
  have a1 := Ka.cell 1
  simp only [List.getElem?_toArray, List.getElem?_cons_succ, List.getElem?_cons_zero] at a0 a1
  have HKr := Lib.hid Kr
  have HBW := Lib.hid hbw
  clear Ka Kr hbw hb1 HM1
  go_wp2_with fail
  refine (HMD.out _ (fun j W' hj hW' => HROW.out j W' hj (btrans HBW.out hW'))).mono ?_
  rintro e_ w3 ⟨g, hg, rfl, hr3, hb1⟩
  have hr4 : Rows w3 (some ⟨g, 0, none⟩) H H (rowsOf W S) := hr3.ext fun j _ => HL.out j
  have hgne : g ≠ w.heap.size + 1 := by omega
  have hg2 : w.heap.size ≤ g := by omega
  have hbw : Below w.heap.size w w3 := btrans HBW.out hb1
  have Kr := HKr.out.below hb1 lr
  clear hg hb1 HMD hr3 HROW HL lr HKr HBW
  have g0 := Kr.cell 0
  have g1 := Kr.cell 1
  have g2 := Kr.cell 2
  have f0 := Kr.frozen 0
  have f1 := Kr.frozen 1
  have f2 := Kr.frozen 2
  simp only [List.getElem?_toArray, List.getElem?_cons_succ, List.getElem?_cons_zero] at g0 g1 g2
  have HKr := Lib.hid Kr
  have HBW := Lib.hid hbw
  have HR4 := Lib.hid hr4
  clear Kr hbw hr4
  go_wp2_with fail
  have K := ((HKr.out.set_ 0 (.int .i64 (W : Int))).set_ 1 (.int .i64 (H : Int))).set_ 2 (.slice (some ⟨g, 0, none⟩) H H)
  refine ret_struct2 (g := w.heap.size + 1) (t := 51) (cs := #[.int .i64 (W : Int), .int .i64 (H : Int), .slice (some ⟨g, 0, none⟩) H H]) rfl rfl ?_ Try.underlying51 rfl rfl rfl ?_
  · exact K
  · exact ⟨g, by omega, rfl, Rows.setBox HR4.out hgne HKr.out _ _ _, by (repeat' (first | refine bset ?_ (by first | omega | (simp <;> omega)) _ | refine balloc ?_ _ | refine Below.drew ?_ | refine below_drewN ?_ _ | exact HBW.out | exact Below.refl _ _))⟩
set_option maxRecDepth 100000 in
set_option maxHeartbeats 3200000 in
theorem rband_any (W H c : Nat) (A : Option Addr) (R : Nat → Nat → Bool) (lo hi : Int) (w : World) (hW : 1 ≤ W ∧ W ≤ 64) (hH : 1 ≤ H ∧ H ≤ 64) (hr : Rows w A H c (rowsOf W R)) :
    Calls Try.prog 47 #[.agg #[.int .i64 (W : Int), .int .i64 (H : Int), .slice A H c], .int .i64 lo, .int .i64 hi] w fun e w' =>
      ∃ g, w.heap.size ≤ g ∧ e = .returned (.tuple #[.agg #[.int .i64 (W : Int), .int .i64 (H : Int), .slice (some ⟨g, 0, none⟩) H H], .int .i64 0]) ∧ Rows w' (some ⟨g, 0, none⟩) H H (rowsOf W (fun j i => decide (lo ≤ (j : Int)) && decide ((j : Int) < hi) && R j i)) ∧ Below w.heap.size w w' := by
  have hmf := mkfunc
  have s1 : ∀ (u : World) (o : Obj), (u.alloc o).heap.size = u.heap.size + 1 := fun u o => by simp
  have KA := (((Blk.new (w) 51 #[.int .i64 (W : Int), .int .i64 (H : Int), .slice A H c]).alloc (.cells #[.int .i64 lo] 3)).alloc (.cells #[.int .i64 hi] 3)).alloc (.cells #[.int .i64 0, .int .i64 0, .slice none 0 0] 51)
  have KX := ((Blk.new ((w.alloc (.cells #[.int .i64 (W : Int), .int .i64 (H : Int), .slice A H c] 51))) 3 #[.int .i64 lo]).alloc (.cells #[.int .i64 hi] 3)).alloc (.cells #[.int .i64 0, .int .i64 0, .slice none 0 0] 51)
  have KY := (Blk.new (((w.alloc (.cells #[.int .i64 (W : Int), .int .i64 (H : Int), .slice A H c] 51)).alloc (.cells #[.int .i64 lo] 3))) 3 #[.int .i64 hi]).alloc (.cells #[.int .i64 0, .int .i64 0, .slice none 0 0] 51)
  have Kr := zreg ((((w.alloc (.cells #[.int .i64 (W : Int), .int .i64 (H : Int), .slice A H c] 51)).alloc (.cells #[.int .i64 lo] 3)).alloc (.cells #[.int .i64 hi] 3)))
  simp only [s1] at KX KY Kr
  have HW := Lib.hid hW
  have HH := Lib.hid hH
  have HR := Lib.hid hr
  have lA := KA.lt
  have lX := KX.lt
  have lY := KY.lt
  have HA := Lib.hid KA
  have HX := Lib.hid KX
  have HY := Lib.hid KY
  clear s1 hW hH KA KX KY hr
  have HMD := Lib.hid (fun W' hr hrow hL => rone_any 90 #[.pointer (some ⟨w.heap.size + 1, 0, none⟩), .pointer (some ⟨w.heap.size + 1 + 1, 0, none⟩), .pointer (some ⟨w.heap.size, 0, none⟩)] W H c A R (fun j => if (j : Int) < lo ∨ hi ≤ (j : Int) then [] else rowsOf W R j) (fun j i => decide (lo ≤ (j : Int)) && decide ((j : Int) < hi) && R j i) W' HW.out HH.out hr (fun args W => by kernel_rfl) hrow hL)
  go_enter Try.func47, Try.ntmps47
  go_wp2_with fail
  refine (HMD.out _ (HR.out.below (by (repeat' (first | exact Below.refl _ _ | exact Below.refl _ _ | refine balloc ?_ _ | refine Below.drew ?_ | refine below_drewN ?_ _ | refine bset ?_ (by first | omega | (simp <;> omega)) _)))) (fun j W' hj hW' => band1_any W H (w.heap.size + 1) (w.heap.size + 1 + 1) (w.heap.size) c j lo hi A R W' hj HH.out.2 (HX.out.below hW' lX) (HY.out.below hW' lY) (HA.out.below hW' lA) (HR.out.below (btrans (by (repeat' (first | exact Below.refl _ _ | exact Below.refl _ _ | refine balloc ?_ _ | refine Below.drew ?_ | refine below_drewN ?_ _ | refine bset ?_ (by first | omega | (simp <;> omega)) _))) hW'))) (fun j => norm_band W lo hi R j HW.out.2)).mono ?_
  rintro e_ w3 ⟨g, hg, rfl, hr4, hb1⟩
  have hgne : g ≠ w.heap.size + 1 + 1 + 1 := by simp at hg; omega
  have hg2 : w.heap.size ≤ g := by simp at hg; omega
  have hbw : Below w.heap.size w w3 := btrans (by (repeat' (first | exact Below.refl _ _ | exact Below.refl _ _ | refine balloc ?_ _ | refine Below.drew ?_ | refine below_drewN ?_ _ | refine bset ?_ (by first | omega | (simp <;> omega)) _))) hb1
  replace Kr := Kr.below hb1 (by first | (simp; done) | (simp; omega))
  clear hg hb1 HMD HA HX HY lA lX lY
  have g0 := Kr.cell 0
  have g1 := Kr.cell 1
  have g2 := Kr.cell 2
  have f0 := Kr.frozen 0
  have f1 := Kr.frozen 1
  have f2 := Kr.frozen 2
  simp only [List.getElem?_toArray, List.getElem?_cons_succ, List.getElem?_cons_zero] at g0 g1 g2
  have HKr := Lib.hid Kr
  have HBW := Lib.hid hbw
  have HR4 := Lib.hid hr4
  clear Kr hbw hr4
  go_wp2_with fail
  have K := ((HKr.out.set_ 0 (.int .i64 (W : Int))).set_ 1 (.int .i64 (H : Int))).set_ 2 (.slice (some ⟨g, 0, none⟩) H H)
  refine ret_struct2 (g := w.heap.size + 1 + 1 + 1) (t := 51) (cs := #[.int .i64 (W : Int), .int .i64 (H : Int), .slice (some ⟨g, 0, none⟩) H H]) rfl rfl ?_ Try.underlying51 rfl rfl rfl ?_
  · exact K
  · exact ⟨g, by omega, rfl, Rows.setBox HR4.out hgne HKr.out _ _ _, by (repeat' (first | refine bset ?_ (by first | omega | (simp <;> omega)) _ | refine balloc ?_ _ | refine Below.drew ?_ | refine below_drewN ?_ _ | exact HBW.out | exact Below.refl _ _))⟩
end Go.Proofs.Ytegpjjkbbdfggaa.rg

/-
  Masks: cover.May, region.Of. (PRUNE)
-/
namespace Go.Proofs.Ytegpjjkbbdfggaa.rg
set_option linter.unusedVariables false
set_option linter.unusedSimpArgs false
open Go.RowKit bs sp ik

theorem cside_yes (n : Nat) (h : 1 ≤ n ∧ n ≤ 64) (w : World) : Calls Try.prog 127 #[.int .i64 (n : Int)] w fun e w' => e = .returned (.bool true) ∧ w = w' := by
  go_enter Try.func127, Try.ntmps127
  go_wp2_with fail
  go_ret
  exact ⟨ret_bool (by simp; omega), rfl⟩

set_option maxRecDepth 100000 in
set_option maxHeartbeats 1600000 in
theorem cmay_yes (W H q c : Nat) (A : Option Addr) (B : Nat → Int) (w : World) (hW : 1 ≤ W ∧ W ≤ 64) (hH : 1 ≤ H ∧ H ≤ 64) (hq : q = W * H) (hp : Pg w A q c B) (hB : ∀ j, j < q → B j ≤ 1) :
    Calls Try.prog 113 #[.agg #[.int .i64 (W : Int), .int .i64 (H : Int), .slice A q c]] w fun e w' => e = .returned (.bool true) ∧ Below w.heap.size w w' := by
  have hs := page_size hW hH
  rw [← hq] at hs
  have hm : (W : Int) * (H : Int) = (q : Int) := by rw [hq]; push_cast; rfl
  have HS1 := Lib.hid (cside_yes W hW)
  have HS2 := Lib.hid (cside_yes H hH)
  obtain ⟨hqc, b, o, rfl, hlt, hcell⟩ := hp
  have HC := Lib.hid hcell
  have HB := Lib.hid hB
  have hbw : Below w.heap.size w (w.alloc (.cells #[.int .i64 (W : Int), .int .i64 (H : Int), .slice (some ⟨b, o, none⟩) q c] 111)) := balloc (Below.refl _ _) _
  have HBW := Lib.hid hbw
  clear hW hH hq hcell hB hbw
  go_enter Try.func113, Try.ntmps113
  go_wp2_with (go_at_call 127; first | (refine (HS1.out _).mono ?_; rintro e w' ⟨rfl, rfl⟩) | (refine (HS2.out _).mono ?_; rintro e w' ⟨rfl, rfl⟩))
  go_loopw [29] (fun kv wr => ∃ k : Nat, k ≤ q ∧ kv = .int .i64 (k : Int) ∧ Below w.heap.size w wr) (fun kv _ => q - (intOf kv).toNat)
  case atStart => exact ⟨0, by omega, rfl, HBW.out⟩
  case round =>
    clear HBW
    obtain ⟨k, hk, rfl, hbw⟩ := hrel
    by_cases hkq : k < q
    · have d1 : decide ((k : Int) < (q : Int)) = true := by simp; omega
      obtain ⟨h1, h2, h3⟩ := HC.out k hkq
      have h4 := HB.out k hkq
      have h5 := (hbw.cell (p := ⟨b, o + k, none⟩) hlt).trans h1
      generalize B k = x at *
      have d2 : decide (1 < x) = false := by simp; omega
      clear h1
      go_wp2_with fail
      go_roundw
      case rel => exact ⟨k + 1, by omega, by go_num, hbw⟩
      case measure => simp [intOf]; omega
    · obtain rfl : k = q := by omega
      have d1 : decide ((k : Int) < (k : Int)) = false := by simp
      go_wp2_with fail
      go_ret
      exact ⟨rfl, hbw⟩

/-- the runs of the first i places of a mask's row from p on -/
def mrow (B : Nat → Int) (p i : Nat) : List (Int × Int) := (List.range i).map fun (t : Nat) => ((t : Int), (t : Int) + B (p + t))
theorem mrow_len (B : Nat → Int) (p i : Nat) : (mrow B p i).length = i := by simp [mrow]
theorem mrow_succ (B : Nat → Int) (p i : Nat) : mrow B p (i + 1) = mrow B p i ++ [((i : Int), (i : Int) + B (p + i))] := by simp [mrow, List.range_succ]
theorem mrow_in (B : Nat → Int) (p n : Nat) (hB : ∀ t, t < n → B (p + t) = 0 ∨ B (p + t) = 1) (i : Nat) (hi : i < n) : inRuns (mrow B p n) i = decide (B (p + i) = 1) := by
  unfold inRuns mrow
  rw [Bool.eq_iff_iff]
  simp only [List.any_eq_true, List.mem_map, List.mem_range, Bool.and_eq_true, decide_eq_true_eq]
  constructor
  · rintro ⟨x, ⟨t, ht, rfl⟩, h1, h2⟩
    simp only at h1 h2
    rcases hB t ht with h | h
    · rw [h] at h2; omega
    · rw [h] at h2
      obtain rfl : t = i := by omega
      exact h
  · intro h
    exact ⟨_, ⟨i, hi, rfl⟩, by simp, by simp [h]; omega⟩
theorem norm_mrow (W : Nat) (B : Nat → Int) (j : Nat) (hW : W ≤ 64) (hB : ∀ t, t < W → B (j * W + t) = 0 ∨ B (j * W + t) = 1) : norm (mrow B (j * W) W) W = rowsOf W (fun j i => decide (B (j * W + i) = 1)) j := by
  unfold norm rowsOf
  rw [show (max 0 (min (W : Int) 64)).toNat = W by omega]
  exact rl_ext W fun i hi => mrow_in B (j * W) W hB i hi

/-- Of's row behind i rounds -/
def ORel (w : World) (B : Nat → Int) (p i : Nat) (v : Value) (wr : World) : Prop := OwnRuns wr w.heap.size v (mrow B p i) ∧ Below w.heap.size w wr
theorem ORel.put {w wr w1 : World} {B : Nat → Int} {p i : Nat} {v v1 : Value} {o : Obj} (h : ORel w B p i v wr)
    (hown : w1.ownsRow w.heap.size 109 2 v1 (i + 1) (flat (mrow B p i) ++ [.int .i64 (i : Int), .int .i64 ((i : Int) + B (p + i))])) (hg : (wr.alloc o).grownBy w1 v.ownBlock) : ORel w B p (i + 1) v1 w1 := by
  obtain ⟨h1, h2⟩ := h
  refine ⟨?_, Below.grown (balloc h2 o) hg (by have := h2.size; simp; omega) (fun k e => (h1.lt k e).1)⟩
  unfold OwnRuns
  rw [mrow_len, mrow_succ]
  simpa [flat] using hown
theorem two_newR (w : World) (x y : Value) (t : TypeId) : ∀ (j : Nat) (u : Value), [x, y][j]? = some u → (w.alloc (.cells #[x, y] t)).cell? ((⟨w.heap.size, 0, none⟩ : Addr).add j) = some u := by
  intro j u hu
  have hadd : (⟨w.heap.size, 0, none⟩ : Addr).add j = ⟨w.heap.size, j, none⟩ := by unfold Addr.add; split <;> simp_all
  rw [hadd, (Blk.new w t #[x, y]).cell]
  simpa using hu

set_option maxRecDepth 100000 in
set_option maxHeartbeats 1600000 in
theorem of1_any (W H q c mB j : Nat) (A : Option Addr) (B : Nat → Int) (w : World) (hW : 1 ≤ W ∧ W ≤ 64) (hH : 1 ≤ H ∧ H ≤ 64) (hj : j < H) (hq : q = W * H) (Km : Blk w mB 111 #[.int .i64 (W : Int), .int .i64 (H : Int), .slice A q c]) (hp : Pg w A q c B) :
    Calls Try.prog 114 #[.int .i64 (j : Int), .pointer (some ⟨mB, 0, none⟩)] w fun e w' => ∃ A n c, e = .returned (.slice A n c) ∧ n ≤ 9223372036854775807 ∧ Runs w' A n c (mrow B (j * W) W) ∧ Below w.heap.size w w' := by
  obtain ⟨i0, hi, hz0, hz1, hz2⟩ := info_parts (show (Try.prog.info? 109).map (fun i => (i.zero, i.size, i.bytes)) = some (some (.agg #[.int .i64 0, .int .i64 0]), 2, 16) by kernel_rfl)
  have hs := page_size hW hH
  rw [← hq] at hs
  obtain ⟨hqc, b, o, rfl, hlt, hcell⟩ := hp
  have e0 := Km.cell 0
  have e2 := Km.cell 2
  simp only [List.getElem?_toArray, List.getElem?_cons_succ, List.getElem?_cons_zero] at e0 e2
  obtain ⟨p, hpp⟩ : ∃ p, j * W = p := ⟨_, rfl⟩
  have hp1 : (j : Int) * (W : Int) = (p : Int) := by rw [← hpp]; push_cast; rfl
  have hp2 : ((j : Int) + 1) * (W : Int) = (p : Int) + (W : Int) := by rw [Int.add_mul, Int.one_mul, hp1]
  have hpq : p + W ≤ q := by
    have h1 : (j + 1) * W ≤ H * W := Nat.mul_le_mul_right W hj
    rw [Nat.add_mul, Nat.one_mul, hpp, Nat.mul_comm H W, ← hq] at h1
    exact h1
  rw [hpp]
  obtain ⟨w0, w1⟩ := hW
  have hcp : ¬ c = p := by omega
  have hj64 : j < 64 := by omega
  have hc9 : p + W ≤ c := by omega
  have hk9 : p + W ≤ 4096 := by omega
  have hps : p + W - p = W := by omega
  have hpt : ((p : Int) + (W : Int)).toNat = p + W := by omega
  have HC := Lib.hid hcell
  have HQ := Lib.hid hq
  clear hpp hcell Km hH hq
  go_enter Try.func114, Try.ntmps114
  go_wp2_with fail
  go_loopw [4, 20] (fun v iv wr => ∃ i : Nat, i ≤ W ∧ iv = .int .i64 (i : Int) ∧ ORel w B p i v wr) (fun _ iv _ => W - (intOf iv).toNat)
  case atStart => exact ⟨0, by omega, rfl, ⟨by simp [mrow, flat], .inl ⟨rfl, rfl⟩⟩, by (repeat' (first | exact Below.refl _ _ | exact Below.refl _ _ | refine balloc ?_ _ | refine Below.drew ?_ | refine below_drewN ?_ _ | refine bset ?_ (by first | omega | (simp <;> omega)) _))⟩
  case round =>
    obtain ⟨i, hiW, rfl, hO⟩ := hrel
    by_cases hlt2 : i < W
    · have d1 : decide ((i : Int) < (W : Int)) = true := by simp; omega
      obtain ⟨h1, h2, h3⟩ := HC.out (p + i) (by omega)
      have h5 : wr.cell? ⟨b, o + p + i, none⟩ = some (.int .u8 (B (p + i))) := by rw [Nat.add_assoc]; exact (hO.2.cell (p := ⟨b, o + (p + i), none⟩) hlt).trans h1
      have HXO := Lib.hid (fun o' => World.ownsRow.alloc (o := o') hO.1)
      simp only [mrow_len] at HXO
      have hsz := hO.2.size
      have HPUT := Lib.hid (fun v1 w1 o' hown hg => hO.put (v1 := v1) (w1 := w1) (o := o') hown hg)
      generalize B (p + i) = x at *
      clear h1 hO
      have jx : (0 : Int) ≤ (i : Int) + x ∧ (i : Int) + x ≤ 1000 := by omega
      obtain ⟨jx0, jx1⟩ := jx
      go_wp2_with (at_builtin; refine wpList_append_own _ rfl (.tmp 25) (.tmp 32) _ rfl w.heap.size 109 i0 _ 2 16 Try.underlying107 hi hz0 hz1 hz2 rfl (by omega) u4 _ _ rfl (HXO.out _) ⟨wr.heap.size, 0, none⟩ 1 1 [.int .i64 (i : Int), .int .i64 ((i : Int) + x)] rfl rfl (two_newR _ _ _ _) (by simp [Value.oneCell']) (by simp [maxLen]; omega) (by omega) (by first | (simp; done) | (simp; omega)) ?_; intro v1 w1 hown1 hg1 _)
      go_roundw
      case rel => exact ⟨i + 1, by omega, by go_num, HPUT.out v1 w1 _ hown1 hg1⟩
      case measure => simp [intOf]; omega
    · obtain rfl : i = W := by omega
      have d1 : decide ((i : Int) < (i : Int)) = false := by simp
      obtain ⟨A1, c1, hv, hr⟩ := hO.1.runs
      rw [mrow_len] at hv hr
      have hbw := hO.2
      subst hv
      clear hO
      go_wp2_with fail
      go_ret
      exact ⟨A1, _, c1, rfl, by omega, hr, hbw⟩
end Go.Proofs.Ytegpjjkbbdfggaa.rg

/-
  ink.Same of pages that are alike. (PRUNE)
-/
namespace Go.Proofs.Ytegpjjkbbdfggaa.rg
set_option linter.unusedVariables false
set_option linter.unusedSimpArgs false
open Go.RowKit bs sp ik

/-- the bytes as a list -/
def listB (n : Nat) (B : Nat → Int) : List UInt8 := (List.range n).map fun j => UInt8.ofNat (B j).toNat
theorem listB_len (n : Nat) (B : Nat → Int) : (listB n B).length = n := by simp [listB]
theorem listB_get (n : Nat) (B : Nat → Int) (j : Nat) (h : j < (listB n B).length) (hb : 0 ≤ B j ∧ B j ≤ 255) : ((listB n B)[j].toNat : Int) = B j := by
  simp only [listB, List.getElem_map, List.getElem_range]
  rw [UInt8.toNat_ofNat']
  omega
theorem listB_ext {n : Nat} {B C : Nat → Int} (h : ∀ j, j < n → B j = C j) : listB n B = listB n C := by
  unfold listB
  refine List.map_congr_left fun j hj => ?_
  rw [h j (List.mem_range.1 hj)]
/-- the bytes as a string -/
theorem Pg.str {w : World} {A : Option Addr} {n c : Nat} {B : Nat → Int} (h : Pg w A n c B) : (convert 44 9 (.slice A n c)).run Try.prog w = .ok (.string ⟨(listB n B).toArray⟩) w := by
  obtain ⟨h1, b, o, rfl, h3, h4⟩ := h
  have := run_convert_bytes_back (P := Try.prog) w 44 9 5 ⟨b, o, none⟩ c (listB n B) Try.underlying44 Try.underlying5 Try.underlying9 (fun j hj => by
    have hj' : j < n := by rw [listB_len] at hj; exact hj
    rw [Go.WideShapes.add_plain, (h4 j hj').1, listB_get n B j hj (h4 j hj').2])
  rw [listB_len] at this
  exact this

set_option maxRecDepth 100000 in
set_option maxHeartbeats 1600000 in
theorem psame_yes (W H : Int) (n c d : Nat) (A D : Option Addr) (B C : Nat → Int) (w : World) (hp : Pg w A n c B) (hq : Pg w D n d C) (hBC : ∀ j, j < n → B j = C j) :
    Calls Try.prog 33 #[.agg #[.int .i64 W, .int .i64 H, .slice A n c], .agg #[.int .i64 W, .int .i64 H, .slice D n d]] w fun e w' => e = .returned (.bool true) ∧ Below w.heap.size w w' := by
  have hq2 := hq.ext fun j hj => (hBC j hj).symm
  have S1 := (hp.below (w' := (w.alloc (.cells #[.int .i64 W, .int .i64 H, .slice A n c] 46)).alloc (.cells #[.int .i64 W, .int .i64 H, .slice D n d] 46)) (by (repeat' (first | exact Below.refl _ _ | exact Below.refl _ _ | refine balloc ?_ _ | refine Below.drew ?_ | refine below_drewN ?_ _ | refine bset ?_ (by first | omega | (simp <;> omega)) _)))).str
  have S2 := (hq2.below (w' := (w.alloc (.cells #[.int .i64 W, .int .i64 H, .slice A n c] 46)).alloc (.cells #[.int .i64 W, .int .i64 H, .slice D n d] 46)) (by (repeat' (first | exact Below.refl _ _ | exact Below.refl _ _ | refine balloc ?_ _ | refine Below.drew ?_ | refine below_drewN ?_ _ | refine bset ?_ (by first | omega | (simp <;> omega)) _)))).str
  obtain ⟨s, hs⟩ : ∃ s : ByteArray, ⟨(listB n B).toArray⟩ = s := ⟨_, rfl⟩
  rw [hs] at S1 S2
  clear hq2 hs hBC hp hq
  go_enter Try.func33, Try.ntmps33
  go_wp2_with fail
  go_ret
  exact ⟨by simp, by (repeat' (first | exact Below.refl _ _ | exact Below.refl _ _ | refine balloc ?_ _ | refine Below.drew ?_ | refine below_drewN ?_ _ | refine bset ?_ (by first | omega | (simp <;> omega)) _))⟩
end Go.Proofs.Ytegpjjkbbdfggaa.rg

/-
  Put's closure: a pixel's three bytes are blended. (PRUNE)
-/
namespace Go.Proofs.Ytegpjjkbbdfggaa.rg
set_option linter.unusedVariables false
set_option linter.unusedSimpArgs false
open Go.RowKit bs sp ik

/-- what the two boxes and the bytes' block hold while Put goes on -/
def PRel (g n kB pB : Nat) (kv pv : Array Value) (B : Nat → Int) (wr : World) : Prop :=
  ∃ cs, Blk wr g 5 cs ∧ Holds cs n B ∧ Blk wr kB 62 kv ∧ Blk wr pB 46 pv
theorem PRel.below {g n kB pB : Nat} {kv pv : Array Value} {B : Nat → Int} {wr w' : World} (h : PRel g n kB pB kv pv B wr) (hb : Below wr.heap.size wr w') : PRel g n kB pB kv pv B w' := by
  obtain ⟨cs, h1, h2, h3, h4⟩ := h
  exact ⟨cs, h1.below hb h1.lt, h2, h3.below hb h3.lt, h4.below hb h4.lt⟩
theorem PRel.ext {g n kB pB : Nat} {kv pv : Array Value} {B C : Nat → Int} {wr : World} (h : PRel g n kB pB kv pv B wr) (e : ∀ j, j < n → B j = C j) : PRel g n kB pB kv pv C wr := by
  obtain ⟨cs, h1, h2, h3, h4⟩ := h
  exact ⟨cs, h1, h2.ext e, h3, h4⟩
theorem PRel.put {g n kB pB : Nat} {kv pv : Array Value} {B : Nat → Int} {wr : World} (h : PRel g n kB pB kv pv B wr) (k : Nat) (v : Int) (h0 : 0 ≤ v) (h1 : v ≤ 255) (hk : kB ≠ g) (hp : pB ≠ g) : PRel g n kB pB kv pv (fun j => if j = k then v else B j) (wr.setCell ⟨g, k, none⟩ (.int .u8 v)) := by
  obtain ⟨cs, h1', h2, h3, h4⟩ := h
  exact ⟨_, h1'.set_ k _, h2.put k v h0 h1, h3.far hk _, h4.far hp _⟩
theorem Holds.bd {cs : Array Value} {n : Nat} {B : Nat → Int} (h : Holds cs n B) (j : Nat) (hj : j < n) : 0 ≤ B j ∧ B j ≤ 255 := (h.2 j hj).2
/-- an ink's byte -/
def chan (x y z : Int) (c : Nat) : Int := if c = 0 then x else if c = 1 then y else z
theorem chan_bd {x y z : Int} (hx : 0 ≤ x ∧ x ≤ 255) (hy : 0 ≤ y ∧ y ≤ 255) (hz : 0 ≤ z ∧ z ≤ 255) (c : Nat) : 0 ≤ chan x y z c ∧ chan x y z c ≤ 255 := by unfold chan; (repeat' split) <;> assumption
/-- c bytes from m on are blended -/
def stg (x y z a : Int) (m c : Nat) (B : Nat → Int) (j : Nat) : Int := if m ≤ j ∧ j < m + c then blend (B j) (chan x y z (j - m)) a else B j
theorem stg_zero (x y z a : Int) (m : Nat) (B : Nat → Int) (j : Nat) : stg x y z a m 0 B j = B j := by unfold stg; rw [if_neg (by omega)]
theorem stg_at (x y z a : Int) (m c : Nat) (B : Nat → Int) : stg x y z a m c B (m + c) = B (m + c) := by unfold stg; rw [if_neg (by omega)]
theorem stg_succ (x y z a : Int) (m c : Nat) (B : Nat → Int) (j : Nat) : (if j = m + c then blend (B (m + c)) (chan x y z c) a else stg x y z a m c B j) = stg x y z a m (c + 1) B j := by
  unfold stg
  by_cases e : j = m + c
  · subst e
    rw [if_pos rfl, if_pos (by omega), show m + c - m = c by omega]
  · rw [if_neg e]
    by_cases h : m ≤ j ∧ j < m + c
    · rw [if_pos h, if_pos (by omega)]
    · rw [if_neg h, if_neg (by omega)]

theorem ixb0 (x y z : Int) (w : World) : (Instr.index 133 (.agg #[.int .u8 x, .int .u8 y, .int .u8 z]) (.int .i64 0)).run Try.prog w = .ok (.int .u8 x) w := by kernel_rfl
theorem ixb1 (x y z : Int) (w : World) : (Instr.index 133 (.agg #[.int .u8 x, .int .u8 y, .int .u8 z]) (.int .i64 1)).run Try.prog w = .ok (.int .u8 y) w := by kernel_rfl
theorem ixb2 (x y z : Int) (w : World) : (Instr.index 133 (.agg #[.int .u8 x, .int .u8 y, .int .u8 z]) (.int .i64 2)).run Try.prog w = .ok (.int .u8 z) w := by kernel_rfl

set_option maxRecDepth 100000 in
set_option maxHeartbeats 3200000 in
theorem put1_any (g n d kB pB m : Nat) (W H x y z a : Int) (B : Nat → Int) (w : World) (hn : n ≤ 12288) (hnd : n ≤ d) (hm : m + 3 ≤ n) (hx : 0 ≤ x ∧ x ≤ 255) (hy : 0 ≤ y ∧ y ≤ 255) (hz : 0 ≤ z ∧ z ≤ 255) (ha : 0 ≤ a ∧ a ≤ 255) (hk : kB ≠ g) (hp : pB ≠ g)
    (hR : PRel g n kB pB #[.int .u8 x, .int .u8 y, .int .u8 z, .int .u8 a] #[.int .i64 W, .int .i64 H, .slice (some ⟨g, 0, none⟩) n d] B w) :
    Calls Try.prog 100 #[.int .i64 (m : Int), .pointer (some ⟨kB, 0, none⟩), .pointer (some ⟨pB, 0, none⟩)] w fun e w' => e = .returned (.tuple #[]) ∧
      PRel g n kB pB #[.int .u8 x, .int .u8 y, .int .u8 z, .int .u8 a] #[.int .i64 W, .int .i64 H, .slice (some ⟨g, 0, none⟩) n d] (stg x y z a m 3 B) w' ∧ w.grownBy w' (some g) := by
  obtain ⟨cs, h1, h2, h3, h4⟩ := id hR
  have k0 := h3.cell 0
  have k1 := h3.cell 1
  have k2 := h3.cell 2
  simp only [List.getElem?_toArray, List.getElem?_cons_succ, List.getElem?_cons_zero] at k0 k1 k2
  have HR := Lib.hid hR
  have HX := Lib.hid hx
  have HY := Lib.hid hy
  have HZ := Lib.hid hz
  have HA := Lib.hid ha
  clear h1 h2 h3 h4 hR hx hy hz ha
  go_enter Try.func100, Try.ntmps100
  go_wp2_with fail
  go_loopw [13] (fun cv wr => ∃ c : Nat, c ≤ 3 ∧ cv = .int .i64 (c : Int) ∧ PRel g n kB pB #[.int .u8 x, .int .u8 y, .int .u8 z, .int .u8 a] #[.int .i64 W, .int .i64 H, .slice (some ⟨g, 0, none⟩) n d] (stg x y z a m c B) wr ∧ w.grownBy wr (some g)) (fun cv _ => 3 - (intOf cv).toNat)
  case atStart => exact ⟨0, by omega, rfl, HR.out.ext fun j _ => (stg_zero _ _ _ _ _ _ _).symm, World.grownBy.refl _ _⟩
  case round =>
    clear HR k0 k1 k2
    obtain ⟨c, hc, rfl, hR, hG⟩ := hrel
    obtain ⟨cs, h1, h2, h3, h4⟩ := id hR
    by_cases hc3 : c = 3
    · subst hc3
      clear h1 h2 h3 h4
      go_wp2_with fail
      go_end0
      exact ⟨rfl, hR, hG⟩
    · have hsg := stg_at x y z a m c B
      have hbd := h2.bd (m + c) (by omega)
      have p2 := h4.cell 2
      have k3 := h3.cell 3
      have gc : wr.cell? ⟨g, m + c, none⟩ = some (.int .u8 (stg x y z a m c B (m + c))) := by rw [h1.cell]; exact (h2.2 (m + c) (by omega)).1
      simp only [List.getElem?_toArray, List.getElem?_cons_succ, List.getElem?_cons_zero] at p2 k3
      rw [hsg] at gc hbd
      have hgl := h1.lt
      have hkl := h3.lt
      have hpl := h4.lt
      obtain ⟨v, hv⟩ : ∃ v, B (m + c) = v := ⟨_, rfl⟩
      rw [hv] at gc hbd
      have hcb := chan_bd HX.out HY.out HZ.out c
      have hbl := blend_bd v (chan x y z c) a hbd hcb HA.out
      obtain ⟨t, ht⟩ : ∃ t, blend v (chan x y z c) a = t := ⟨_, rfl⟩
      have HBL := Lib.hid (fun W' => ht ▸ blend_any v (chan x y z c) a W' hbd hcb HA.out)
      rw [ht] at hbl
      have hst := fun j => stg_succ x y z a m c B j
      rw [hv, ht] at hst
      have HN := Lib.hid fun (wz : World) (hb : Below wr.heap.size wr wz) => (⟨((hR.below hb).put (m + c) t hbl.1 hbl.2 hk hp).ext fun j _ => hst j, gtrans (gbelow hG hb) (only_setCell (World.grownBy.refl _ _) (.inl rfl) _)⟩ : PRel g n kB pB _ _ (stg x y z a m (c + 1) B) (wz.setCell ⟨g, m + c, none⟩ (.int .u8 t)) ∧ w.grownBy (wz.setCell ⟨g, m + c, none⟩ (.int .u8 t)) (some g))
      have HCL := Lib.hid fun (wz : World) (hb : Below wr.heap.size wr wz) => show wz.cell? ⟨g, m + c, none⟩ = some (.int .u8 v) ∧ wz.frozen? ⟨g, m + c, none⟩ = false from ⟨(hb.cell (p := ⟨g, m + c, none⟩) hgl).trans gc, (h1.below hb hgl).frozen _⟩
      have U0 := fun u : Up wr => (u.cell (p := ⟨pB, 2, none⟩) hpl).trans p2
      have U1 := fun u : Up wr => (u.cell (p := ⟨kB, 3, none⟩) hkl).trans k3
      have U2 := fun u : Up wr => (u.cell (p := ⟨g, m + c, none⟩) hgl).trans gc
      have j0 : (0 : Int) ≤ (m : Int) + (c : Int) := by omega
      have j1 : (m : Int) + (c : Int) < (n : Int) := by omega
      have j2 : ((m : Int) + (c : Int)).toNat = m + c := by omega
      have jw : IntKind.i64.wrap ((m : Int) + (c : Int)) = (m : Int) + (c : Int) := by simp only [IntKind.wrap, IntKind.signed, IntKind.bits]; simp; omega
      clear h1 h2 h3 h4 hR hG hsg hbd gc p2 k3 hv hcb hbl hst ht
      rcases (show c = 0 ∨ c = 1 ∨ c = 2 by omega) with rfl | rfl | rfl
      · have HU := Lib.hid (fun u : Up wr => up_same (u := u) (HBL.out u.val))
        rw [show chan x y z 0 = x from rfl] at HU
        have ix := ixb0 x y z
        have m1 : (m : Int) < (n : Int) := by omega
        have m0 : (0 : Int) ≤ (m : Int) := by omega
        replace U2 : ∀ u : Up wr, u.val.cell? ⟨g, m, none⟩ = some (.int .u8 v) := U2
        clear j0 j1 j2 jw
        go_wp2_with fail
        refine wp_region_up_tail 17 (by kernel_rfl) (by kernel_rfl) ?_
        simp only [List.take_succ_cons, List.take_zero, List.drop_succ_cons, List.drop_zero]
        repeat (go_big_quiet_step (fail))
        go_big_quiet_step (exact HU.out _)
        repeat (go_big_quiet_step (fail))
        refine wpQuiet_nil ?_
        rintro _ ⟨uq, rfl⟩
        obtain ⟨cv9, fv9⟩ := HCL.out uq.val uq.ok
        replace cv9 : uq.val.cell? ⟨g, m, none⟩ = some (.int .u8 v) := cv9
        replace fv9 : uq.val.frozen? ⟨g, m, none⟩ = false := fv9
        have HN2 := Lib.hid (HN.out uq.val uq.ok)
        clear HN HCL HU U0 U1 U2 HBL
        generalize hwx : uq.val = wz at *
        clear hwx uq
        go_wp2_with fail
        go_roundw
        case rel => exact ⟨0 + 1, by omega, by go_num, HN2.out⟩
        case measure => simp [intOf]
      · have HU := Lib.hid (fun u : Up wr => up_same (u := u) (HBL.out u.val))
        rw [show chan x y z 1 = y from rfl] at HU
        have ix := ixb1 x y z
        have e1 : (m : Int) + ((1 : Nat) : Int) = (m : Int) + 1 := by omega
        rw [e1] at j0 j1 j2 jw
        clear e1
        go_wp2_with fail
        refine wp_region_up_tail 17 (by kernel_rfl) (by kernel_rfl) ?_
        simp only [List.take_succ_cons, List.take_zero, List.drop_succ_cons, List.drop_zero]
        repeat (go_big_quiet_step (fail))
        go_big_quiet_step (exact HU.out _)
        repeat (go_big_quiet_step (fail))
        refine wpQuiet_nil ?_
        rintro _ ⟨uq, rfl⟩
        obtain ⟨cv9, fv9⟩ := HCL.out uq.val uq.ok
        have HN2 := Lib.hid (HN.out uq.val uq.ok)
        clear HN HCL HU U0 U1 U2 HBL
        generalize hwx : uq.val = wz at *
        clear hwx uq
        go_wp2_with fail
        go_roundw
        case rel => exact ⟨1 + 1, by omega, by go_num, HN2.out⟩
        case measure => simp [intOf]
      · have HU := Lib.hid (fun u : Up wr => up_same (u := u) (HBL.out u.val))
        rw [show chan x y z 2 = z from rfl] at HU
        have ix := ixb2 x y z
        have e1 : (m : Int) + ((2 : Nat) : Int) = (m : Int) + 2 := by omega
        rw [e1] at j0 j1 j2 jw
        clear e1
        go_wp2_with fail
        refine wp_region_up_tail 17 (by kernel_rfl) (by kernel_rfl) ?_
        simp only [List.take_succ_cons, List.take_zero, List.drop_succ_cons, List.drop_zero]
        repeat (go_big_quiet_step (fail))
        go_big_quiet_step (exact HU.out _)
        repeat (go_big_quiet_step (fail))
        refine wpQuiet_nil ?_
        rintro _ ⟨uq, rfl⟩
        obtain ⟨cv9, fv9⟩ := HCL.out uq.val uq.ok
        have HN2 := Lib.hid (HN.out uq.val uq.ok)
        clear HN HCL HU U0 U1 U2 HBL
        generalize hwx : uq.val = wz at *
        clear hwx uq
        go_wp2_with fail
        go_roundw
        case rel => exact ⟨2 + 1, by omega, by go_num, HN2.out⟩
        case measure => simp [intOf]
end Go.Proofs.Ytegpjjkbbdfggaa.rg

/-
  ink.Put. (PRUNE)
-/
namespace Go.Proofs.Ytegpjjkbbdfggaa.rg
set_option linter.unusedVariables false
set_option linter.unusedSimpArgs false
open Go.RowKit bs sp ik

/-- a page's bytes behind Put, up to pixel p -/
def partB (W : Nat) (R : Nat → Nat → Bool) (x y z a : Int) (B : Nat → Int) (p j : Nat) : Int :=
  if j / 3 < p ∧ R (j / 3 / W) (j / 3 % W) = true then blend (B j) (chan x y z (j % 3)) a else B j
/-- a page's bytes behind Put -/
def putB (W : Nat) (R : Nat → Nat → Bool) (x y z a : Int) (B : Nat → Int) (j : Nat) : Int :=
  if R (j / 3 / W) (j / 3 % W) = true then blend (B j) (chan x y z (j % 3)) a else B j
theorem pix_of {W j i : Nat} (hi : i < W) : (j * W + i) / W = j ∧ (j * W + i) % W = i := by
  have h1 : j * W + i = i + W * j := by rw [Nat.mul_comm, Nat.add_comm]
  rw [h1, Nat.add_mul_div_left _ _ (by omega), Nat.add_mul_mod_self_left, Nat.div_eq_of_lt hi, Nat.mod_eq_of_lt hi]
  exact ⟨Nat.zero_add _, rfl⟩
theorem partB_zero (W : Nat) (R : Nat → Nat → Bool) (x y z a : Int) (B : Nat → Int) (j : Nat) : B j = partB W R x y z a B 0 j := by
  unfold partB; rw [if_neg (by omega)]
theorem partB_skip (W : Nat) (R : Nat → Nat → Bool) (x y z a : Int) (B : Nat → Int) (j i : Nat) (hi : i < W) (h : R j i = false) (t : Nat) : partB W R x y z a B (j * W + i) t = partB W R x y z a B (j * W + i + 1) t := by
  unfold partB
  by_cases e : t / 3 = j * W + i
  · obtain ⟨e1, e2⟩ := pix_of (j := j) hi
    rw [e, e1, e2, h]
    simp
  · have : t / 3 < j * W + i + 1 ↔ t / 3 < j * W + i := by omega
    simp only [this]
theorem partB_step (W : Nat) (R : Nat → Nat → Bool) (x y z a : Int) (B : Nat → Int) (j i : Nat) (hi : i < W) (h : R j i = true) (t : Nat) : stg x y z a (3 * (j * W + i)) 3 (partB W R x y z a B (j * W + i)) t = partB W R x y z a B (j * W + i + 1) t := by
  unfold stg
  by_cases e : t / 3 = j * W + i
  · obtain ⟨e1, e2⟩ := pix_of (j := j) hi
    rw [if_pos (by omega)]
    unfold partB
    rw [e, e1, e2, h, if_neg (by omega), if_pos (by simp), show t - 3 * (j * W + i) = t % 3 by omega]
  · rw [if_neg (by omega)]
    unfold partB
    have : t / 3 < j * W + i + 1 ↔ t / 3 < j * W + i := by omega
    simp only [this]
theorem partB_all (W H : Nat) (R : Nat → Nat → Bool) (x y z a : Int) (B : Nat → Int) (t : Nat) (ht : t < 3 * (W * H)) : partB W R x y z a B (H * W) t = putB W R x y z a B t := by
  unfold partB putB
  have h1 : t / 3 < H * W := by rw [Nat.mul_comm H W]; omega
  simp only [h1, true_and]
theorem pix_in {W H j i : Nat} (hj : j < H) (hi : i < W) : 3 * (j * W + i) + 3 ≤ 3 * (W * H) := by
  have h1 : (j + 1) * W ≤ H * W := Nat.mul_le_mul_right W hj
  rw [Nat.add_mul, Nat.one_mul] at h1
  rw [Nat.mul_comm W H]
  omega
theorem put_walks (g W H n d kB pB : Nat) (R : Nat → Nat → Bool) (x y z a : Int) (B : Nat → Int) (hW : 1 ≤ W ∧ W ≤ 64) (hH : 1 ≤ H ∧ H ≤ 64) (hn : n = 3 * (W * H)) (hnd : n ≤ d) (hx : 0 ≤ x ∧ x ≤ 255) (hy : 0 ≤ y ∧ y ≤ 255) (hz : 0 ≤ z ∧ z ≤ 255) (ha : 0 ≤ a ∧ a ≤ 255) (hk : kB ≠ g) (hp : pB ≠ g) :
    Walks g W H R 100 #[.pointer (some ⟨kB, 0, none⟩), .pointer (some ⟨pB, 0, none⟩)]
      (fun p => PRel g n kB pB #[.int .u8 x, .int .u8 y, .int .u8 z, .int .u8 a] #[.int .i64 (W : Int), .int .i64 (H : Int), .slice (some ⟨g, 0, none⟩) n d] (partB W R x y z a B p)) := by
  have hs := page_size hW hH
  refine ⟨fun p w1 w2 h hb => h.below hb, fun j i w1 hj hi h hr => hr.ext fun t _ => partB_skip W R x y z a B j i hi h t, fun j i w1 hj hi h hr => ?_⟩
  have h3 := pix_in hj hi
  have := put1_any g n d kB pB (3 * (j * W + i)) W H x y z a _ w1 (by omega) hnd (by omega) hx hy hz ha hk hp hr
  rw [show ((3 * (j * W + i) : Nat) : Int) = 3 * ((j * W + i : Nat) : Int) by push_cast; rfl] at this
  exact this.mono fun e w' ⟨h1, h2, h4⟩ => ⟨h1, h2.ext fun t _ => partB_step W R x y z a B j i hi h t, h4⟩

set_option maxRecDepth 100000 in
set_option maxHeartbeats 3200000 in
theorem put_any (W H n c d : Nat) (A D : Option Addr) (R : Nat → Nat → Bool) (x y z a : Int) (B : Nat → Int) (w : World) (hW : 1 ≤ W ∧ W ≤ 64) (hH : 1 ≤ H ∧ H ≤ 64) (hn : n = 3 * (W * H)) (hx : 0 ≤ x ∧ x ≤ 255) (hy : 0 ≤ y ∧ y ≤ 255) (hz : 0 ≤ z ∧ z ≤ 255) (ha : 0 ≤ a ∧ a ≤ 255)
    (hp : Pg w A n c B) (hr : Rows w D H d (rowsOf W R)) :
    Calls Try.prog 53 #[.agg #[.int .i64 (W : Int), .int .i64 (H : Int), .slice A n c], .agg #[.int .i64 (W : Int), .int .i64 (H : Int), .slice D H d], .agg #[.int .u8 x, .int .u8 y, .int .u8 z, .int .u8 a]] w fun e w' =>
      ∃ g f, w.heap.size ≤ g ∧ e = .returned (.tuple #[.agg #[.int .i64 (W : Int), .int .i64 (H : Int), .slice (some ⟨g, 0, none⟩) n f], .int .i64 0]) ∧ Pg w' (some ⟨g, 0, none⟩) n f (putB W R x y z a B) ∧ Below w.heap.size w w' := by
  have hmf := mkfunc
  have hs := page_size hW hH
  have HF := Lib.hid (fun W' (hW' : Below w.heap.size w W') => fits_yes W H n c d A D R W' hW hH hn (hr.below hW'))
  have HC := Lib.hid (fun W' (hW' : Below w.heap.size w W') => copied_any W H n c A B W' (by omega) (by omega) (hp.below hW'))
  have HWK := Lib.hid (fun g f hnd hk hq => put_walks g W H n f (w.heap.size + 1 + 1) w.heap.size R x y z a B hW hH hn hnd hx hy hz ha hk hq)
  have HEA := Lib.hid (fun w2 g Rel hV hgV hgw hw h0 => each_any w w2 g W H d D R 100 #[.pointer (some ⟨w.heap.size + 1 + 1, 0, none⟩), .pointer (some ⟨w.heap.size, 0, none⟩)] Rel (fun args W => by kernel_rfl) hW.2 hH.2 hr hV hgV hgw hw h0)
  have HN := Lib.hid hn
  have s1 : ∀ (u : World) (o : Obj), (u.alloc o).heap.size = u.heap.size + 1 := fun u o => by simp
  have Kp := (((Blk.new w 46 #[.int .i64 (W : Int), .int .i64 (H : Int), .slice A n c]).alloc (.cells #[.int .i64 (W : Int), .int .i64 (H : Int), .slice D H d] 51)).alloc (.cells #[.int .u8 x, .int .u8 y, .int .u8 z, .int .u8 a] 62)).alloc (.cells #[.int .i64 0, .int .i64 0, .slice none 0 0] 46)
  have Kr := ((Blk.new (w.alloc (.cells #[.int .i64 (W : Int), .int .i64 (H : Int), .slice A n c] 46)) 51 #[.int .i64 (W : Int), .int .i64 (H : Int), .slice D H d]).alloc (.cells #[.int .u8 x, .int .u8 y, .int .u8 z, .int .u8 a] 62)).alloc (.cells #[.int .i64 0, .int .i64 0, .slice none 0 0] 46)
  have Kk := (Blk.new ((w.alloc (.cells #[.int .i64 (W : Int), .int .i64 (H : Int), .slice A n c] 46)).alloc (.cells #[.int .i64 (W : Int), .int .i64 (H : Int), .slice D H d] 51)) 62 #[.int .u8 x, .int .u8 y, .int .u8 z, .int .u8 a]).alloc (.cells #[.int .i64 0, .int .i64 0, .slice none 0 0] 46)
  have Kz := Blk.new (((w.alloc (.cells #[.int .i64 (W : Int), .int .i64 (H : Int), .slice A n c] 46)).alloc (.cells #[.int .i64 (W : Int), .int .i64 (H : Int), .slice D H d] 51)).alloc (.cells #[.int .u8 x, .int .u8 y, .int .u8 z, .int .u8 a] 62)) 46 #[.int .i64 0, .int .i64 0, .slice none 0 0]
  simp only [s1] at Kr Kk Kz
  clear s1 hn hr hp hW hH hx hy hz ha
  go_enter Try.func53, Try.ntmps53
  go_wp2_with fail
  refine (HF.out _ (by (repeat' (first | exact Below.refl _ _ | exact Below.refl _ _ | refine balloc ?_ _ | refine Below.drew ?_ | refine below_drewN ?_ _ | refine bset ?_ (by first | omega | (simp <;> omega)) _)))).mono ?_
  rintro e_ w1 ⟨rfl, hb1⟩
  have hbw : Below w.heap.size w w1 := btrans (by (repeat' (first | exact Below.refl _ _ | exact Below.refl _ _ | refine balloc ?_ _ | refine Below.drew ?_ | refine below_drewN ?_ _ | refine bset ?_ (by first | omega | (simp <;> omega)) _))) hb1
  replace Kp := Kp.below hb1 (by first | (simp; done) | (simp; omega))
  replace Kr := Kr.below hb1 (by first | (simp; done) | (simp; omega))
  replace Kk := Kk.below hb1 (by first | (simp; done) | (simp; omega))
  replace Kz := Kz.below hb1 (by first | (simp; done) | (simp; omega))
  have lp := Kp.lt
  have lr := Kr.lt
  have lk := Kk.lt
  have lz := Kz.lt
  have a0 := Kp.cell 0
  have a1 := Kp.cell 1
  have a2 := Kp.cell 2
  simp only [List.getElem?_toArray, List.getElem?_cons_succ, List.getElem?_cons_zero] at a0 a1 a2
  have HKp := Lib.hid Kp
  have HKr := Lib.hid Kr
  have HKk := Lib.hid Kk
  have HKz := Lib.hid Kz
  have HBW := Lib.hid hbw
  clear Kp Kr Kk Kz hbw hb1 HF
  go_wp2_with fail
  refine (HC.out _ HBW.out).mono ?_
  rintro e_ w2 ⟨g, f, cs, hg, rfl, hnf, hB, hH2, hb1⟩
  have hbw := btrans HBW.out hb1
  have Kp := HKp.out.below hb1 lp
  have Kr := HKr.out.below hb1 lr
  have Kk := HKk.out.below hb1 lk
  have Kz := HKz.out.below hb1 lz
  have hgl := hB.lt
  have hgw : w.heap.size ≤ g := by have := HBW.out.size; omega
  have e1 : w.heap.size + 1 + 1 ≠ g := by omega
  have e2 : w.heap.size ≠ g := by omega
  have e3 : w.heap.size + 1 + 1 + 1 ≠ g := by omega
  have P1 : PRel g n (w.heap.size + 1 + 1) w.heap.size #[.int .u8 x, .int .u8 y, .int .u8 z, .int .u8 a] #[.int .i64 (W : Int), .int .i64 (H : Int), .slice (some ⟨g, 0, none⟩) n f] B (((w2.setCell ⟨w.heap.size, 0, none⟩ (.int .i64 (W : Int))).setCell ⟨w.heap.size, 1, none⟩ (.int .i64 (H : Int))).setCell ⟨w.heap.size, 2, none⟩ (.slice (some ⟨g, 0, none⟩) n f)) :=
    ⟨cs, ((hB.far e2.symm _).far e2.symm _).far e2.symm _, hH2, ((Kk.far (p := ⟨w.heap.size, 0, none⟩) (by simp; omega) _).far (p := ⟨w.heap.size, 1, none⟩) (by simp; omega) _).far (p := ⟨w.heap.size, 2, none⟩) (by simp; omega) _, ((Kp.set_ 0 _).set_ 1 _).set_ 2 _⟩
  have Z1 := ((Kz.far (p := ⟨w.heap.size, 0, none⟩) (by simp; omega) (.int .i64 (W : Int))).far (p := ⟨w.heap.size, 1, none⟩) (by simp; omega) (.int .i64 (H : Int))).far (p := ⟨w.heap.size, 2, none⟩) (by simp; omega) (.slice (some ⟨g, 0, none⟩) n f)
  have R1 := ((Kr.far (p := ⟨w.heap.size, 0, none⟩) (by simp) (.int .i64 (W : Int))).far (p := ⟨w.heap.size, 1, none⟩) (by simp) (.int .i64 (H : Int))).far (p := ⟨w.heap.size, 2, none⟩) (by simp) (.slice (some ⟨g, 0, none⟩) n f)
  clear HKp HKr HKk HKz HBW hb1 a0 a1 a2 lp lr lk lz HC hg hB hH2
  have a0 := Kp.cell 0
  have a1 := Kp.cell 1
  have a2 := Kp.cell 2
  have f0 := Kp.frozen 0
  have f1 := Kp.frozen 1
  have f2 := Kp.frozen 2
  have b0 := Kr.cell 0
  have b1 := Kr.cell 1
  have b2 := Kr.cell 2
  simp only [List.getElem?_toArray, List.getElem?_cons_succ, List.getElem?_cons_zero] at a0 a1 a2 b0 b1 b2
  have HP1 := Lib.hid P1
  have HZ1 := Lib.hid Z1
  have HR1 := Lib.hid R1
  have HBW := Lib.hid hbw
  have HNF := Lib.hid hnf
  clear Kp Kr Kk Kz hbw P1 Z1 R1 hnf
  go_wp2_with fail
  refine (HEA.out _ g _ (by (repeat' (first | refine bset ?_ (by first | omega | (simp <;> omega)) _ | refine balloc ?_ _ | refine Below.drew ?_ | refine below_drewN ?_ _ | exact HBW.out | exact Below.refl _ _))) hgw (by simpa using hgl) (HWK.out g f HNF.out e1 e2) (HP1.out.ext fun j _ => partB_zero W R x y z a B j)).mono ?_
  rintro e_ w3 ⟨rfl, hP, hG⟩
  have hbw : Below w.heap.size w w3 := Below.grown (by (repeat' (first | refine bset ?_ (by first | omega | (simp <;> omega)) _ | refine balloc ?_ _ | refine Below.drew ?_ | refine below_drewN ?_ _ | exact HBW.out | exact Below.refl _ _))) hG (by have := HBW.out.size; simpa using this) (fun k e => by cases e; exact hgw)
  have Kz := HZ1.out.grown hG (by simp; omega)
  clear HP1 HZ1 HR1 HBW hG a0 a1 a2 b0 b1 b2 f0 f1 f2 HEA HWK
  obtain ⟨cs3, h1, h2, h3, h4⟩ := hP
  have a0 := h4.cell 0
  have a1 := h4.cell 1
  have a2 := h4.cell 2
  have z0 := Kz.cell 0
  have z1 := Kz.cell 1
  have z2 := Kz.cell 2
  have f0 := Kz.frozen 0
  have f1 := Kz.frozen 1
  have f2 := Kz.frozen 2
  simp only [List.getElem?_toArray, List.getElem?_cons_succ, List.getElem?_cons_zero] at a0 a1 a2 z0 z1 z2
  have H1 := Lib.hid h1
  have H2 := Lib.hid h2
  have HKz := Lib.hid Kz
  have HBW := Lib.hid hbw
  clear h1 h2 h3 h4 Kz hbw
  go_wp2_with fail
  have K := ((HKz.out.set_ 0 (.int .i64 (W : Int))).set_ 1 (.int .i64 (H : Int))).set_ 2 (.slice (some ⟨g, 0, none⟩) n f)
  refine ret_struct2 (g := w.heap.size + 1 + 1 + 1) (t := 46) (cs := #[.int .i64 (W : Int), .int .i64 (H : Int), .slice (some ⟨g, 0, none⟩) n f]) rfl rfl ?_ Try.underlying46 rfl rfl rfl ?_
  · exact K
  · refine ⟨g, f, hgw, rfl, (H2.out.ext fun t ht => partB_all W H R x y z a B t (by have := HN.out; omega)).pg (((H1.out.far (p := ⟨_, 0, none⟩) e3.symm _).far (p := ⟨_, 1, none⟩) e3.symm _).far (p := ⟨_, 2, none⟩) e3.symm _) HNF.out, by (repeat' (first | refine bset ?_ (by first | omega | (simp <;> omega)) _ | refine balloc ?_ _ | refine Below.drew ?_ | refine below_drewN ?_ _ | exact HBW.out | exact Below.refl _ _))⟩
end Go.Proofs.Ytegpjjkbbdfggaa.rg

/-
  region.Of, ink.Unlike. (PRUNE)
-/
namespace Go.Proofs.Ytegpjjkbbdfggaa.rg
set_option linter.unusedVariables false
set_option linter.unusedSimpArgs false
open Go.RowKit bs sp ik

set_option maxRecDepth 100000 in
set_option maxHeartbeats 3200000 in
theorem rof_any (W H q c : Nat) (A : Option Addr) (B : Nat → Int) (w : World) (hW : 1 ≤ W ∧ W ≤ 64) (hH : 1 ≤ H ∧ H ≤ 64) (hq : q = W * H) (hp : Pg w A q c B) (hB : ∀ j, j < q → B j = 0 ∨ B j = 1) :
    Calls Try.prog 74 #[.agg #[.int .i64 (W : Int), .int .i64 (H : Int), .slice A q c]] w fun e w' =>
      ∃ g, w.heap.size ≤ g ∧ e = .returned (.tuple #[.agg #[.int .i64 (W : Int), .int .i64 (H : Int), .slice (some ⟨g, 0, none⟩) H H], .int .i64 0]) ∧ Rows w' (some ⟨g, 0, none⟩) H H (rowsOf W (fun j i => decide (B (j * W + i) = 1))) ∧ Below w.heap.size w w' := by
  have hmf := mkfunc
  have HM1 := Lib.hid (fun W' (hW' : Below w.heap.size w W') => cmay_yes W H q c A B W' hW hH hq (hp.below hW') (fun j hj => by rcases hB j hj with h | h <;> omega))
  have HMD := Lib.hid (fun W' hrow => made_any W H 114 #[.pointer (some ⟨w.heap.size, 0, none⟩)] (fun j => mrow B (j * W) W) W' hW hH (fun args W => by kernel_rfl) hrow)
  have HROW := Lib.hid (fun (j : Nat) (W' : World) (hj : j < H) (hW' : Below w.heap.size w W') (Km : Blk W' w.heap.size 111 #[.int .i64 (W : Int), .int .i64 (H : Int), .slice A q c]) => of1_any W H q c w.heap.size j A B W' hW hH hj hq Km (hp.below hW'))
  have hL : ∀ j, j < H → norm (mrow B (j * W) W) W = rowsOf W (fun j i => decide (B (j * W + i) = 1)) j := fun j hj => norm_mrow W B j hW.2 (fun t ht => hB _ (by
    have h1 : (j + 1) * W ≤ H * W := Nat.mul_le_mul_right W hj
    rw [Nat.add_mul, Nat.one_mul, Nat.mul_comm H W, ← hq] at h1
    omega))
  have HL := Lib.hid hL
  have Ka := (Blk.new w 111 #[.int .i64 (W : Int), .int .i64 (H : Int), .slice A q c]).alloc (.cells #[.int .i64 0, .int .i64 0, .slice none 0 0] 51)
  have Kr := zreg (w.alloc (.cells #[.int .i64 (W : Int), .int .i64 (H : Int), .slice A q c] 111))
  have s1 : ∀ (u : World) (o : Obj), (u.alloc o).heap.size = u.heap.size + 1 := fun u o => by simp
  simp only [s1] at Kr
  clear s1 hW hH hp hq hB hL
  go_enter Try.func74, Try.ntmps74
  go_wp2_with fail
  refine (HM1.out _ (by (repeat' (first | exact Below.refl _ _ | exact Below.refl _ _ | refine balloc ?_ _ | refine Below.drew ?_ | refine below_drewN ?_ _ | refine bset ?_ (by first | omega | (simp <;> omega)) _)))).mono ?_
  rintro e_ w1 ⟨rfl, hb1⟩
  have hbw : Below w.heap.size w w1 := btrans (by (repeat' (first | exact Below.refl _ _ | exact Below.refl _ _ | refine balloc ?_ _ | refine Below.drew ?_ | refine below_drewN ?_ _ | refine bset ?_ (by first | omega | (simp <;> omega)) _))) hb1
  replace Ka := Ka.below hb1 (by first | (simp; done) | (simp; omega))
  replace Kr := Kr.below hb1 (by first | (simp; done) | (simp; omega))
  have la := Ka.lt
  have lr := Kr.lt
  have a0 := Ka.cell 0
  have a1 := Ka.cell 1
  simp only [List.getElem?_toArray, List.getElem?_cons_succ, List.getElem?_cons_zero] at a0 a1
  have HKa := Lib.hid Ka
  have HKr := Lib.hid Kr
  have HBW := Lib.hid hbw
  clear Ka Kr hbw hb1 HM1
  go_wp2_with fail
  refine (HMD.out _ (fun j W' hj hW' => HROW.out j W' hj (btrans HBW.out hW') (HKa.out.below hW' la))).mono ?_
  rintro e_ w3 ⟨g, hg, rfl, hr3, hb1⟩
  have hr4 : Rows w3 (some ⟨g, 0, none⟩) H H (rowsOf W (fun j i => decide (B (j * W + i) = 1))) := hr3.ext fun j hj => HL.out j hj
  have hgne : g ≠ w.heap.size + 1 := by omega
  have hg2 : w.heap.size ≤ g := by omega
  have hbw : Below w.heap.size w w3 := btrans HBW.out hb1
  have Kr := HKr.out.below hb1 lr
  clear hg hb1 HMD hr3 HROW HL lr HKr HBW HKa la
  have g0 := Kr.cell 0
  have g1 := Kr.cell 1
  have g2 := Kr.cell 2
  have f0 := Kr.frozen 0
  have f1 := Kr.frozen 1
  have f2 := Kr.frozen 2
  simp only [List.getElem?_toArray, List.getElem?_cons_succ, List.getElem?_cons_zero] at g0 g1 g2
  have HKr := Lib.hid Kr
  have HBW := Lib.hid hbw
  have HR4 := Lib.hid hr4
  clear Kr hbw hr4
  go_wp2_with fail
  have K := ((HKr.out.set_ 0 (.int .i64 (W : Int))).set_ 1 (.int .i64 (H : Int))).set_ 2 (.slice (some ⟨g, 0, none⟩) H H)
  refine ret_struct2 (g := w.heap.size + 1) (t := 51) (cs := #[.int .i64 (W : Int), .int .i64 (H : Int), .slice (some ⟨g, 0, none⟩) H H]) rfl rfl ?_ Try.underlying51 rfl rfl rfl ?_
  · exact K
  · exact ⟨g, by omega, rfl, Rows.setBox HR4.out hgne HKr.out _ _ _, by (repeat' (first | refine bset ?_ (by first | omega | (simp <;> omega)) _ | refine balloc ?_ _ | refine Below.drew ?_ | refine below_drewN ?_ _ | exact HBW.out | exact Below.refl _ _))⟩

/-- do two pixels differ? -/
def dif (B C : Nat → Int) (k : Nat) : Bool := !(decide (B (3 * k) = C (3 * k)) && decide (B (3 * k + 1) = C (3 * k + 1)) && decide (B (3 * k + 2) = C (3 * k + 2)))
theorem Pg.sub {w : World} {b o n c : Nat} {B : Nat → Int} (h : Pg w (some ⟨b, o, none⟩) n c B) (p cc : Nat) (hp : p + 3 ≤ n) (hc : 3 ≤ cc) : Pg w (some ⟨b, o + p, none⟩) 3 cc (fun t => B (p + t)) := by
  obtain ⟨h1, b', o', e, hlt, hx⟩ := h
  cases e
  exact ⟨hc, b, o + p, rfl, hlt, fun j hj => by rw [Nat.add_assoc]; exact hx (p + j) (by omega)⟩
theorem u8_inj {x y : Int} (hx : 0 ≤ x ∧ x ≤ 255) (hy : 0 ≤ y ∧ y ≤ 255) (h : UInt8.ofNat x.toNat = UInt8.ofNat y.toNat) : x = y := by
  have h1 := congrArg UInt8.toNat h
  rw [UInt8.toNat_ofNat', UInt8.toNat_ofNat'] at h1
  omega
/-- three bytes as strings: alike just if the bytes are -/
theorem str3 (B C : Nat → Int) (k : Nat) (hB : ∀ t, t < 3 → 0 ≤ B (3 * k + t) ∧ B (3 * k + t) ≤ 255) (hC : ∀ t, t < 3 → 0 ≤ C (3 * k + t) ∧ C (3 * k + t) ≤ 255) :
    ((⟨(listB 3 fun t => B (3 * k + t)).toArray⟩ : ByteArray) = ⟨(listB 3 fun t => C (3 * k + t)).toArray⟩) ↔ dif B C k = false := by
  have e : ∀ (f : Nat → Int), listB 3 f = [UInt8.ofNat (f 0).toNat, UInt8.ofNat (f 1).toNat, UInt8.ofNat (f 2).toNat] := fun f => rfl
  unfold dif
  simp only [Bool.not_eq_false', Bool.and_eq_true, decide_eq_true_eq]
  constructor
  · intro h
    have h1 : (listB 3 fun t => B (3 * k + t)) = (listB 3 fun t => C (3 * k + t)) := by
      have h2 : (listB 3 fun t => B (3 * k + t)).toArray = (listB 3 fun t => C (3 * k + t)).toArray := by injection h
      exact List.toArray_inj h2
    rw [e, e] at h1
    simp only [List.cons.injEq, and_true, Nat.add_zero] at h1
    exact ⟨⟨u8_inj (hB 0 (by omega)) (hC 0 (by omega)) h1.1, u8_inj (hB 1 (by omega)) (hC 1 (by omega)) h1.2.1⟩, u8_inj (hB 2 (by omega)) (hC 2 (by omega)) h1.2.2⟩
  · rintro ⟨⟨h0, h1⟩, h2⟩
    rw [e, e]
    simp only [Nat.add_zero, h0, h1, h2]
/-- Unlike's loop: the mask's bytes, the boxes -/
def URel (w : World) (mg mb W H n q c d : Nat) (A D : Option Addr) (f : Nat → Bool) (k : Nat) (wr : World) : Prop :=
  ∃ cs, Blk wr mg 5 cs ∧ Holds cs q (fun j => if j < k ∧ f j = true then 1 else 0) ∧ Blk wr mb 111 #[.int .i64 (W : Int), .int .i64 (H : Int), .slice (some ⟨mg, 0, none⟩) q q] ∧
    Blk wr w.heap.size 46 #[.int .i64 (W : Int), .int .i64 (H : Int), .slice A n c] ∧ Blk wr (w.heap.size + 1) 46 #[.int .i64 (W : Int), .int .i64 (H : Int), .slice D n d] ∧ Blk wr (w.heap.size + 1 + 1) 51 #[.int .i64 0, .int .i64 0, .slice none 0 0] ∧
    w.heap.size + 1 + 1 < mg ∧ mb ≠ mg ∧ Below w.heap.size w wr
theorem URel.below {w wr w' : World} {mg mb W H n q c d : Nat} {A D : Option Addr} {f : Nat → Bool} {k : Nat} (h : URel w mg mb W H n q c d A D f k wr) (hb : Below wr.heap.size wr w') : URel w mg mb W H n q c d A D f k w' := by
  obtain ⟨cs, h1, h2, h3, h4, h5, h6, h7, h8, h9⟩ := h
  exact ⟨cs, h1.below hb h1.lt, h2, h3.below hb h3.lt, h4.below hb h4.lt, h5.below hb h5.lt, h6.below hb h6.lt, h7, h8, btrans h9 hb⟩
theorem URel.skip {w wr : World} {mg mb W H n q c d : Nat} {A D : Option Addr} {f : Nat → Bool} {k : Nat} (h : URel w mg mb W H n q c d A D f k wr) (hf : f k = false) : URel w mg mb W H n q c d A D f (k + 1) wr := by
  obtain ⟨cs, h1, h2, h3⟩ := h
  refine ⟨cs, h1, h2.ext fun j hj => ?_, h3⟩
  by_cases e : j = k
  · subst e; simp [hf]
  · have : j < k + 1 ↔ j < k := by omega
    simp only [this]
theorem URel.put {w wr : World} {mg mb W H n q c d : Nat} {A D : Option Addr} {f : Nat → Bool} {k : Nat} (h : URel w mg mb W H n q c d A D f k wr) (hf : f k = true) : URel w mg mb W H n q c d A D f (k + 1) (wr.setCell ⟨mg, k, none⟩ (.int .u8 1)) := by
  obtain ⟨cs, h1, h2, h3, h4, h5, h6, h7, h8, h9⟩ := h
  refine ⟨_, h1.set_ k _, (h2.put k 1 (by omega) (by omega)).ext fun j hj => ?_, h3.far h8 _, h4.far (by simp; omega) _, h5.far (by simp; omega) _, h6.far (by simp; omega) _, h7, h8, bset h9 (by simp; omega) _⟩
  by_cases e : j = k
  · subst e; simp [hf]
  · have : j < k + 1 ↔ j < k := by omega
    simp only [this, if_neg e]
theorem URel.start1 {w w1 : World} {W H n q c d : Nat} {A D : Option Addr} (f : Nat → Bool) (hb : Below w.heap.size w w1) (K1 : Blk w1 w.heap.size 46 #[.int .i64 (W : Int), .int .i64 (H : Int), .slice A n c]) (K2 : Blk w1 (w.heap.size + 1) 46 #[.int .i64 (W : Int), .int .i64 (H : Int), .slice D n d]) (K3 : Blk w1 (w.heap.size + 1 + 1) 51 #[.int .i64 0, .int .i64 0, .slice none 0 0]) :
    URel w w1.heap.size (w1.heap.size + 1) W H n q c d A D f 0 ((w1.alloc (.cells (madeCells #[.int .u8 0] q) 5)).alloc (.cells #[.int .i64 (W : Int), .int .i64 (H : Int), .slice (some ⟨w1.heap.size, 0, none⟩) q q] 111)) := by
  have b2 := Blk.new (w1.alloc (.cells (madeCells #[.int .u8 0] q) 5)) 111 #[.int .i64 (W : Int), .int .i64 (H : Int), .slice (some ⟨w1.heap.size, 0, none⟩) q q]
  have s1 : ∀ (u : World) (o : Obj), (u.alloc o).heap.size = u.heap.size + 1 := fun u o => by simp
  simp only [s1] at b2
  exact ⟨_, (Blk.new _ _ _).alloc _, ⟨by rw [size_madeCells]; omega, fun j hj => ⟨by simp [madeCells, hj, Nat.mod_one], by simp, by simp⟩⟩, b2, (K1.alloc _).alloc _, (K2.alloc _).alloc _, (K3.alloc _).alloc _, K3.lt, by omega, balloc (balloc hb _) _⟩
theorem URel.start2 {w w1 : World} {W H n q c d : Nat} {A D : Option Addr} (f : Nat → Bool) (hb : Below w.heap.size w w1) (K1 : Blk w1 w.heap.size 46 #[.int .i64 (W : Int), .int .i64 (H : Int), .slice A n c]) (K2 : Blk w1 (w.heap.size + 1) 46 #[.int .i64 (W : Int), .int .i64 (H : Int), .slice D n d]) (K3 : Blk w1 (w.heap.size + 1 + 1) 51 #[.int .i64 0, .int .i64 0, .slice none 0 0]) :
    URel w (w1.heap.size + 1) w1.heap.size W H n q c d A D f 0 ((w1.alloc (.cells #[.int .i64 (W : Int), .int .i64 (H : Int), .slice (some ⟨w1.heap.size + 1, 0, none⟩) q q] 111)).alloc (.cells (madeCells #[.int .u8 0] q) 5)) := by
  have b2 := Blk.new (w1.alloc (.cells #[.int .i64 (W : Int), .int .i64 (H : Int), .slice (some ⟨w1.heap.size + 1, 0, none⟩) q q] 111)) 5 (madeCells #[.int .u8 0] q)
  have s1 : ∀ (u : World) (o : Obj), (u.alloc o).heap.size = u.heap.size + 1 := fun u o => by simp
  simp only [s1] at b2
  exact ⟨_, b2, ⟨by rw [size_madeCells]; omega, fun j hj => ⟨by simp [madeCells, hj, Nat.mod_one], by simp, by simp⟩⟩, (Blk.new _ _ _).alloc _, (K1.alloc _).alloc _, (K2.alloc _).alloc _, (K3.alloc _).alloc _, by have := K3.lt; omega, by omega, balloc (balloc hb _) _⟩

set_option maxRecDepth 100000 in
set_option maxHeartbeats 3200000 in
theorem unlike_any (W H n c d : Nat) (A D : Option Addr) (B C : Nat → Int) (w : World) (hW : 1 ≤ W ∧ W ≤ 64) (hH : 1 ≤ H ∧ H ≤ 64) (hn : n = 3 * (W * H)) (hp : Pg w A n c B) (hq : Pg w D n d C) :
    Calls Try.prog 50 #[.agg #[.int .i64 (W : Int), .int .i64 (H : Int), .slice A n c], .agg #[.int .i64 (W : Int), .int .i64 (H : Int), .slice D n d]] w fun e w' =>
      ∃ g, w.heap.size ≤ g ∧ e = .returned (.tuple #[.agg #[.int .i64 (W : Int), .int .i64 (H : Int), .slice (some ⟨g, 0, none⟩) H H], .int .i64 0]) ∧ Rows w' (some ⟨g, 0, none⟩) H H (rowsOf W (fun j i => dif B C (j * W + i))) ∧ Below w.heap.size w w' := by
  have hs := page_size hW hH
  obtain ⟨hnc, b, o, rfl, hbl, hbc⟩ := id hp
  obtain ⟨hnd, b', o', rfl, hbl', hbc'⟩ := id hq
  obtain ⟨q, hqq⟩ : ∃ q, W * H = q := ⟨_, rfl⟩
  obtain ⟨i0, hi, hz0, hz1, hz2⟩ := info_parts (show (Try.prog.info? 5).map (fun i => (i.zero, i.size, i.bytes)) = some (some (.int .u8 0), 1, 1) by kernel_rfl)
  have hmk := fun W => run_make_rowN (P := Try.prog) 44 5 i0 (.int .u8 0) Try.underlying44 hi hz0 .i64 .i64 q q (Nat.le_refl _) (by rw [hz2]; omega) (by omega) W
  simp only [hz1, Nat.mul_one] at hmk
  have hm : (W : Int) * (H : Int) = (q : Int) := by rw [← hqq]; push_cast; rfl
  have HM1 := Lib.hid (fun W' => inkmay_yes W H n c (some ⟨b, o, none⟩) W' hW hH hn)
  have HM2 := Lib.hid (fun W' => inkmay_yes W H n d (some ⟨b', o', none⟩) W' hW hH hn)
  have HP := Lib.hid hp
  have HQ := Lib.hid hq
  have HOF := Lib.hid (fun g M W' h hM => rof_any W H q q (some ⟨g, 0, none⟩) M W' hW hH hqq.symm h hM)
  have hn3 : n = 3 * q := by rw [hn, hqq]
  rw [hqq] at hs
  have K1 := ((Blk.new w 46 #[.int .i64 (W : Int), .int .i64 (H : Int), .slice (some ⟨b, o, none⟩) n c]).alloc (.cells #[.int .i64 (W : Int), .int .i64 (H : Int), .slice (some ⟨b', o', none⟩) n d] 46)).alloc (.cells #[.int .i64 0, .int .i64 0, .slice none 0 0] 51)
  have K2 := (Blk.new (w.alloc (.cells #[.int .i64 (W : Int), .int .i64 (H : Int), .slice (some ⟨b, o, none⟩) n c] 46)) 46 #[.int .i64 (W : Int), .int .i64 (H : Int), .slice (some ⟨b', o', none⟩) n d]).alloc (.cells #[.int .i64 0, .int .i64 0, .slice none 0 0] 51)
  have K3 := zreg ((w.alloc (.cells #[.int .i64 (W : Int), .int .i64 (H : Int), .slice (some ⟨b, o, none⟩) n c] 46)).alloc (.cells #[.int .i64 (W : Int), .int .i64 (H : Int), .slice (some ⟨b', o', none⟩) n d] 46))
  have s1 : ∀ (u : World) (o : Obj), (u.alloc o).heap.size = u.heap.size + 1 := fun u o => by simp
  simp only [s1] at K2 K3
  have HN3 := Lib.hid hn3
  have HMK := Lib.hid hmk
  clear s1 hp hq hn hqq hbc hbc' hn3 hmk
  go_enter Try.func50, Try.ntmps50
  go_wp2_with fail
  refine (HM1.out _).mono ?_
  rintro e_ w1 ⟨rfl, hb1⟩
  have hbw : Below w.heap.size w w1 := btrans (by (repeat' (first | exact Below.refl _ _ | exact Below.refl _ _ | refine balloc ?_ _ | refine Below.drew ?_ | refine below_drewN ?_ _ | refine bset ?_ (by first | omega | (simp <;> omega)) _))) hb1
  replace K1 := K1.below hb1 (by first | (simp; done) | (simp; omega))
  replace K2 := K2.below hb1 (by first | (simp; done) | (simp; omega))
  replace K3 := K3.below hb1 (by first | (simp; done) | (simp; omega))
  have l1 := K1.lt
  have l2 := K2.lt
  have l3 := K3.lt
  have b0 := K2.cell 0
  have b1 := K2.cell 1
  have b2 := K2.cell 2
  simp only [List.getElem?_toArray, List.getElem?_cons_succ, List.getElem?_cons_zero] at b0 b1 b2
  have H1 := Lib.hid K1
  have H2 := Lib.hid K2
  have H3 := Lib.hid K3
  have HBW := Lib.hid hbw
  clear K1 K2 K3 hbw hb1 HM1
  go_wp2_with fail
  refine (HM2.out _).mono ?_
  rintro e_ w2 ⟨rfl, hb1⟩
  have hbw := btrans HBW.out hb1
  have K1 := H1.out.below hb1 l1
  have K2 := H2.out.below hb1 l2
  have K3 := H3.out.below hb1 l3
  clear H1 H2 H3 HBW hb1 b0 b1 b2 l1 l2 l3 HM2
  have a0 := K1.cell 0
  have a1 := K1.cell 1
  have b0 := K2.cell 0
  have b1 := K2.cell 1
  simp only [List.getElem?_toArray, List.getElem?_cons_succ, List.getElem?_cons_zero] at a0 a1 b0 b1
  have hwq : IntKind.i64.wrap (q : Int) = (q : Int) := by simp only [IntKind.wrap, IntKind.signed, IntKind.bits]; simp; omega
  have l1 := K1.lt
  have hne0 : ¬ w.heap.size = w2.heap.size := by omega
  have HS1 := Lib.hid (URel.start1 (q := q) (dif B C) hbw K1 K2 K3)
  have HS2 := Lib.hid (URel.start2 (q := q) (dif B C) hbw K1 K2 K3)
  clear K1 K2 K3 hbw
  have hmk := HMK.out
  go_upto_region 3 with fail
  go_cut [6] from 31 to 41 (fun s6 wx => ∃ mg mb : Nat, s6 = .pointer (some ⟨mb, 0, none⟩) ∧ URel w mg mb W H n q c d (some ⟨b, o, none⟩) (some ⟨b', o', none⟩) (dif B C) 0 wx)
  case first =>
    go_region
    all_goals (go_wp2_with fail; go_meet)
    · exact ⟨_, _, rfl, HS1.out.below (Below.drew (Below.refl _ _))⟩
    · exact ⟨_, _, rfl, HS2.out.below (Below.drew (Below.refl _ _))⟩
  case rest =>
    obtain ⟨mg, mb, rfl, hU⟩ := hcut
    clear HS1 HS2 HMK hne0 l1 hwq a0 a1 b0 b1 hi hz0 hz1 hz2
    obtain ⟨cs, u1, u2, u3, u4, u5, u6, u7, u8, u9⟩ := id hU
    have m2 := u3.cell 2
    simp only [List.getElem?_toArray, List.getElem?_cons_succ, List.getElem?_cons_zero] at m2
    clear u1 u2 u3 u4 u5 u6 u7 u8 u9
    go_wp2_with fail
    go_loopw [45] (fun s wr => ∃ k : Nat, k ≤ q ∧ s = .int .i64 (k : Int) ∧ URel w mg mb W H n q c d (some ⟨b, o, none⟩) (some ⟨b', o', none⟩) (dif B C) k wr) (fun s _ => q - (intOf s).toNat)
    case atStart => exact ⟨0, by omega, rfl, hU⟩
    case round =>
      clear m2 hU
      obtain ⟨k, hk, rfl, hU⟩ := hrel
      obtain ⟨cs, u1, u2, u3, u4, u5, u6, u7, u8, u9⟩ := id hU
      have hn3 := HN3.out
      by_cases hkq : k < q
      · have d1 : decide ((k : Int) < (q : Int)) = true := by simp; omega
        have P2 := u4.cell 2
        have Q2 := u5.cell 2
        have m2 := u3.cell 2
        simp only [List.getElem?_toArray, List.getElem?_cons_succ, List.getElem?_cons_zero] at P2 Q2 m2
        have lp := u4.lt
        have lq := u5.lt
        have lm := u3.lt
        have lg := u1.lt
        have gc : wr.cell? ⟨mg, k, none⟩ = some (.int .u8 0) := by rw [u1.cell, (u2.2 k hkq).1]; simp
        have gf := u1.frozen k
        have hbx := fun (u : Up wr) => ((HP.out.below (btrans u9 u.ok)).sub (3 * k) (c - 3 * k) (by omega) (by omega)).str
        have hby := fun (u : Up wr) => ((HQ.out.below (btrans u9 u.ok)).sub (3 * k) (d - 3 * k) (by omega) (by omega)).str
        have hst := str3 B C k (fun t ht => HP.out.bd _ (by omega)) (fun t ht => HQ.out.bd _ (by omega))
        obtain ⟨sx, hsx⟩ : ∃ s : ByteArray, ⟨(listB 3 fun t => B (3 * k + t)).toArray⟩ = s := ⟨_, rfl⟩
        obtain ⟨sy, hsy⟩ : ∃ s : ByteArray, ⟨(listB 3 fun t => C (3 * k + t)).toArray⟩ = s := ⟨_, rfl⟩
        simp only [hsx] at hbx
        simp only [hsy] at hby
        rw [hsx, hsy] at hst
        have cx : ¬ c = 3 * k := by omega
        have cy : ¬ d = 3 * k := by omega
        have j0 : (3 * (k : Int) + 3).toNat = 3 * k + 3 := by omega
        have j1 : (3 * (k : Int)).toNat = 3 * k := by omega
        have j2 : 3 * k + 3 - 3 * k = 3 := by omega
        have j3 : 3 * k + 3 ≤ c := by omega
        have j4 : 3 * k + 3 ≤ d := by omega
        have HU := Lib.hid hU
        clear hn3 u1 u2 u3 u4 u5 u6 u7 u8 u9 hU hsx hsy
        have v1 := fun (u : Up wr) => (u.cell (p := ⟨w.heap.size, 2, none⟩) lp).trans P2
        have v2 := fun (u : Up wr) => (u.cell (p := ⟨w.heap.size + 1, 2, none⟩) lq).trans Q2
        have v3 := fun (u : Up wr) => (u.cell (p := ⟨mb, 2, none⟩) lm).trans m2
        have v4 := fun (u : Up wr) => (u.cell (p := ⟨mg, k, none⟩) lg).trans gc
        have v5 := fun (u : Up wr) => ((bcell u.ok).2 mg k lg).trans gf
        go_wp2_with fail
        refine wp_region_up (by kernel_rfl) (by kernel_rfl) ?_
        repeat (go_big_quiet_step (fail))
        refine wpQuiet_nil ?_
        rintro _ ⟨uq, rfl⟩
        have e1 := v3 uq
        have e2 := v4 uq
        have e3 := v5 uq
        have HU2 := Lib.hid (HU.out.below uq.ok)
        clear v1 v2 v3 v4 v5 hbx hby P2 Q2 m2 lp lq lm lg gc gf HU
        generalize hwx : uq.val = wz at *
        clear hwx uq
        cases hf : dif B C k with
        | false =>
          have hs2 : sx = sy := hst.2 hf
          subst hs2
          have hs3 : (sx.toList == sx.toList) = true := by simp
          have HN := Lib.hid (HU2.out.skip hf)
          clear hst hf HU2
          go_wp2_with fail
          all_goals first
            | exact ⟨⟨k + 1, by omega, by go_num, HN.out⟩, by simp [intOf]; omega⟩
            | (exfalso; rename_i hh; simp at hh; done)
            | (go_roundw; (case rel => exact ⟨k + 1, by omega, by go_num, HN.out⟩); (case measure => simp [intOf]; omega))
            | (exfalso; rename_i hh _; simp at hh; done)
        | true =>
          have hs2 : ¬ sx = sy := fun e => by have := hst.1 e; rw [hf] at this; cases this
          have hs3 : (sx.toList == sy.toList) = false := by
            rw [ByteArray.toList_eq, ByteArray.toList_eq]
            simp only [beq_eq_false_iff_ne, ne_eq]
            exact fun h => hs2 (Go.WideShapes.bytes_inj h)
          have HN := Lib.hid (HU2.out.put hf)
          clear hst hf HU2
          go_wp2_with fail
          all_goals first
            | exact ⟨⟨k + 1, by omega, by go_num, HN.out⟩, by simp [intOf]; omega⟩
            | (exfalso; rename_i hh; simp [ByteArray.toList_eq] at hh; exact hs2 (Go.WideShapes.bytes_inj (by simpa using hh)))
            | (go_roundw; (case rel => exact ⟨k + 1, by omega, by go_num, HN.out⟩); (case measure => simp [intOf]; omega))
            | (exfalso; rename_i hh _; simp [ByteArray.toList_eq] at hh; exact hs2 (Go.WideShapes.bytes_inj (by simpa using hh)))
      · obtain rfl : k = q := by omega
        have d1 : decide ((k : Int) < (k : Int)) = false := by simp
        have m0 := u3.cell 0
        have m1 := u3.cell 1
        have m2 := u3.cell 2
        have z0 := u6.cell 0
        have z1 := u6.cell 1
        have z2 := u6.cell 2
        simp only [List.getElem?_toArray, List.getElem?_cons_succ, List.getElem?_cons_zero] at m0 m1 m2 z0 z1 z2
        have lr := u6.lt
        have HKr := Lib.hid u6
        have HBW := Lib.hid u9
        have HC := Lib.hid (HOF.out mg _ wr (u2.pg u1 (Nat.le_refl _)) (fun j hj => by
          by_cases h : j < k ∧ dif B C j = true
          · right; exact if_pos h
          · left; exact if_neg h))
        clear u1 u2 u3 u4 u5 u6 u7 u8 u9 hU
        go_wp2_with fail
        refine HC.out.mono ?_
        rintro e_ w3 ⟨g, hg, rfl, hr3, hb1⟩
        have hsz := HBW.out.size
        have hr4 : Rows w3 (some ⟨g, 0, none⟩) H H (rowsOf W (fun j i => dif B C (j * W + i))) := hr3.ext fun j hj => rowsOf_ext fun i hi => by
          have h3 := pix_in hj hi
          have : j * W + i < k := by omega
          by_cases h : dif B C (j * W + i) = true <;> simp [h, this]
        have Kr := HKr.out.below hb1 lr
        have hbw := btrans HBW.out hb1
        have hgne : g ≠ w.heap.size + 1 + 1 := by omega
        have hg2 : w.heap.size ≤ g := by omega
        clear hr3 hb1 HKr HBW HC hg m0 m1 m2 z0 z1 z2
        have g0 := Kr.cell 0
        have g1 := Kr.cell 1
        have g2 := Kr.cell 2
        have f0 := Kr.frozen 0
        have f1 := Kr.frozen 1
        have f2 := Kr.frozen 2
        simp only [List.getElem?_toArray, List.getElem?_cons_succ, List.getElem?_cons_zero] at g0 g1 g2
        have HKr := Lib.hid Kr
        have HBW := Lib.hid hbw
        have HR4 := Lib.hid hr4
        clear Kr hbw hr4
        go_wp2_with fail
        have K := ((HKr.out.set_ 0 (.int .i64 (W : Int))).set_ 1 (.int .i64 (H : Int))).set_ 2 (.slice (some ⟨g, 0, none⟩) H H)
        refine ret_struct2 (g := w.heap.size + 1 + 1) (t := 51) (cs := #[.int .i64 (W : Int), .int .i64 (H : Int), .slice (some ⟨g, 0, none⟩) H H]) rfl rfl ?_ Try.underlying51 rfl rfl rfl ?_
        · exact K
        · exact ⟨g, by omega, rfl, Rows.setBox HR4.out hgne HKr.out _ _ _, by (repeat' (first | refine bset ?_ (by first | omega | (simp <;> omega)) _ | refine balloc ?_ _ | refine Below.drew ?_ | refine below_drewN ?_ _ | exact HBW.out | exact Below.refl _ _))⟩
end Go.Proofs.Ytegpjjkbbdfggaa.rg
