/-
  Lemmas for ImagePaints: RefPut, RefMay30, RefMay, RegNo, Fair, ArgNo, RefCopied.
-/
import Derived.BigQuiet
import Derived.Deep.RegionHeld3
import Derived.Deep.CutRange
import Derived.Test.YtegpjjkbbdfggaaImagePartsM5

/-
  The reference's Put, its small parts: IsSide, May, MayRegion, fair, Blend. (PRUNE)
-/
namespace Go.Proofs.Ytegpjjkbbdfggaa.rg
set_option linter.unusedVariables false
set_option linter.unusedSimpArgs false
open Go.RowKit bs sp ik

theorem isside_yes (n : Nat) (h : 1 ≤ n ∧ n ≤ 64) (w : World) : Calls Try.prog 75 #[.int .i64 (n : Int)] w fun e w' => e = .returned (.bool true) ∧ w = w' := by
  go_enter Try.func75, Try.ntmps75
  go_wp2_with fail
  go_ret
  exact ⟨ret_bool (by simp; omega), rfl⟩

set_option maxRecDepth 100000 in
set_option maxHeartbeats 1600000 in
theorem may36_yes (W H n c : Nat) (A : Option Addr) (w : World) (hW : 1 ≤ W ∧ W ≤ 64) (hH : 1 ≤ H ∧ H ≤ 64) (hn : n = 3 * (W * H)) :
    Calls Try.prog 116 #[.agg #[.int .i64 (W : Int), .int .i64 (H : Int), .slice A n c]] w fun e w' => e = .returned (.bool true) ∧ Below w.heap.size w w' := by
  have hs := page_size hW hH
  have HS1 := Lib.hid (isside_yes W hW)
  have HS2 := Lib.hid (isside_yes H hH)
  obtain ⟨M, hM⟩ : ∃ M, W * H = M := ⟨_, rfl⟩
  have hM1 : (W : Int) * (H : Int) = (M : Int) := by rw [← hM]; push_cast; rfl
  have hM2 : 3 * (W : Int) * (H : Int) = 3 * (M : Int) := by rw [Int.mul_assoc, hM1]
  rw [hM] at hn hs
  subst hn
  obtain ⟨w0, w1⟩ := hW
  obtain ⟨h0, h1⟩ := hH
  clear hM
  go_enter Try.func116, Try.ntmps116
  go_wp2_with fail
  refine (HS1.out _).mono ?_
  rintro e_ w_ ⟨rfl, rfl⟩
  go_wp2_with fail
  refine (HS2.out _).mono ?_
  rintro e_ w_ ⟨rfl, rfl⟩
  go_wp2_with fail
  go_ret
  exact ⟨ret_bool (by simp), by (repeat' (first | exact Below.refl _ _ | exact Below.refl _ _ | refine balloc ?_ _ | refine Below.drew ?_ | refine below_drewN ?_ _ | refine bset ?_ (by first | omega | (simp <;> omega)) _))⟩

end Go.Proofs.Ytegpjjkbbdfggaa.rg

/-
  The reference's May of runs (as in span/XRefSays); MayRegion, fair. (PRUNE)
-/
namespace Go.Proofs.Ytegpjjkbbdfggaa.rg
set_option linter.unusedVariables false
set_option linter.unusedSimpArgs false
open Go.RowKit bs sp ik

set_option maxRecDepth 100000 in
set_option maxHeartbeats 3200000 in
theorem rmay_any (A : Option Addr) (n c : Nat) (l : List (Int × Int)) (x : Int) (w : World) (hr : Runs w A n c l) (hn : n ≤ 9223372036854775807) :
    Calls Try.prog 128 #[.slice A n c, .int .i64 x] w fun e w' => e = .returned (.bool (sp.mayB l x)) ∧ Below w.heap.size w w' := by
  by_cases hx : 0 ≤ x ∧ x ≤ 64
  · obtain ⟨x0, x1⟩ := hx
    have he : sp.mayB l x = mayFrom x (lastTo (-1) (l.take 0)) (l.drop 0) := by unfold sp.mayB; simp [x0, x1, lastTo]
    have d1 : decide (x < 0) = false := by simp; omega
    have d2 : decide (64 < x) = false := by simp; omega
    have HE := Lib.hid he
    clear he
    go_enter Try.func128, Try.ntmps128
    go_wp2_with fail
    go_loopw [5, 6] (fun lv kv wr => ∃ (k : Nat) (last : Int), k ≤ n ∧ kv = .int .i64 k ∧ lv = .int .i64 last ∧ Hid (last = lastTo (-1) (l.take k)) ∧ Hid (mayB l x = mayFrom x (lastTo (-1) (l.take k)) (l.drop k)) ∧ Below w.heap.size w wr) (fun _ kv _ => n - (intOf kv).toNat)
    case atStart => exact ⟨0, -1, by omega, rfl, rfl, rfl, HE, Below.refl _ _⟩
    case round =>
      obtain ⟨k, last, hk, rfl, rfl, hla, hma, hbw⟩ := hrel
      have hlen := hr.1
      by_cases hlt : k < n
      · obtain ⟨hl, hnc, hcell⟩ := hr.below hbw
        obtain ⟨b, o, rfl, hb, hcell⟩ := hcell (by omega)
        obtain ⟨c1, c2⟩ := hcell k (by omega)
        have hsp := mayFrom_split x (-1) l k (by omega)
        have hnl : lastTo (-1) (l.take (k + 1)) = l[k].2 := by rw [List.take_succ_eq_append_getElem (by omega), lastTo_append]
        rw [← hma.out, ← hla.out] at hsp
        generalize l[k].1 = p at *
        generalize l[k].2 = q at *
        have HSP := Lib.hid hsp
        have HNL := Lib.hid hnl
        clear hsp hnl hcell hl hlen
        by_cases h1 : last < p
        · have b1 : decide (p ≤ last) = false := by simp; omega
          by_cases h2 : p < q
          · have b2 : decide (q ≤ p) = false := by simp; omega
            by_cases h3 : q ≤ x
            · have b3 : decide (x < q) = false := by simp; omega
              have hnext := Lib.hid (show sp.mayB l x = _ by rw [HSP.out]; simp [h1, h2, h3] : sp.mayB l x = mayFrom x (lastTo (-1) (l.take (k + 1))) (l.drop (k + 1)))
              clear h1 h2 h3
              go_wp2_with fail
              go_quiet (fail)
              go_wp2_with fail
              go_roundw
              case rel => exact ⟨k + 1, q, by omega, by go_num, rfl, HNL.out.symm, hnext, by (repeat' (first | exact hbw | exact Below.refl _ _ | refine balloc ?_ _ | refine Below.drew ?_ | refine below_drewN ?_ _ | refine bset ?_ (by first | omega | (simp <;> omega)) _))⟩
              case measure => simp [intOf]; omega
            · have b3 : decide (x < q) = true := by simp; omega
              have HF := Lib.hid (show sp.mayB l x = false by rw [HSP.out]; simp; omega)
              clear h1 h2 h3
              go_wp2_with fail
              go_quiet (fail)
              go_wp2_with fail
              go_ret
              exact ⟨ret_bool HF.out.symm, by (repeat' (first | exact hbw | exact Below.refl _ _ | refine balloc ?_ _ | refine Below.drew ?_ | refine below_drewN ?_ _ | refine bset ?_ (by first | omega | (simp <;> omega)) _))⟩
          · have b2 : decide (q ≤ p) = true := by simp; omega
            have HF := Lib.hid (show sp.mayB l x = false by rw [HSP.out]; simp; omega)
            clear h1 h2
            go_wp2_with fail
            go_quiet (fail)
            go_wp2_with fail
            go_ret
            exact ⟨ret_bool HF.out.symm, by (repeat' (first | exact hbw | exact Below.refl _ _ | refine balloc ?_ _ | refine Below.drew ?_ | refine below_drewN ?_ _ | refine bset ?_ (by first | omega | (simp <;> omega)) _))⟩
        · have b1 : decide (p ≤ last) = true := by simp; omega
          have HF := Lib.hid (show sp.mayB l x = false by rw [HSP.out]; simp; omega)
          clear h1
          go_wp2_with fail
          go_quiet (fail)
          go_wp2_with fail
          go_ret
          exact ⟨ret_bool HF.out.symm, by (repeat' (first | exact hbw | exact Below.refl _ _ | refine balloc ?_ _ | refine Below.drew ?_ | refine below_drewN ?_ _ | refine bset ?_ (by first | omega | (simp <;> omega)) _))⟩
      · obtain rfl : k = n := by omega
        have ht : sp.mayB l x = true := by rw [hma.out, List.drop_eq_nil_of_le (by omega)]; rfl
        have HT := Lib.hid ht
        clear hlen ht
        go_wp2_with fail
        go_ret
        exact ⟨ret_bool HT.out.symm, hbw⟩
  · have he : sp.mayB l x = false := by unfold sp.mayB; simp; omega
    rw [he]
    clear he
    by_cases h0 : x < 0
    · go_enter Try.func128, Try.ntmps128
      go_wp2_with fail
      go_ret
      exact ⟨rfl, Below.refl _ _⟩
    · go_enter Try.func128, Try.ntmps128
      go_wp2_with fail
      go_ret
      exact ⟨rfl, Below.refl _ _⟩

set_option maxRecDepth 100000 in
set_option maxHeartbeats 1600000 in
theorem mayreg_yes (W H d : Nat) (D : Option Addr) (R : Nat → Nat → Bool) (w : World) (hW : 1 ≤ W ∧ W ≤ 64) (hH : 1 ≤ H ∧ H ≤ 64) (hr : Rows w D H d (rowsOf W R)) :
    Calls Try.prog 117 #[.agg #[.int .i64 (W : Int), .int .i64 (H : Int), .slice D H d]] w fun e w' => e = .returned (.bool true) ∧ Below w.heap.size w w' := by
  obtain ⟨hd, hc⟩ := hr
  obtain ⟨b, o, rfl, hbl, hc⟩ := hc (by omega)
  have HC := Lib.hid hc
  have HMB := Lib.hid (fun j => rowsOf_mayB W R j hW.2)
  have HS1 := Lib.hid (isside_yes W hW)
  have HS2 := Lib.hid (isside_yes H hH)
  have K := Blk.new w 51 #[.int .i64 (W : Int), .int .i64 (H : Int), .slice (some ⟨b, o, none⟩) H d]
  have HK := Lib.hid K
  have HBW := Lib.hid (show Below w.heap.size w (w.alloc (.cells #[.int .i64 (W : Int), .int .i64 (H : Int), .slice (some ⟨b, o, none⟩) H d] 51)) from balloc (Below.refl _ _) _)
  obtain ⟨h0, h1⟩ := hH
  clear hc K hW
  go_enter Try.func117, Try.ntmps117
  go_wp2_with fail
  refine (HS1.out _).mono ?_
  rintro e_ w_ ⟨rfl, rfl⟩
  go_wp2_with fail
  refine (HS2.out _).mono ?_
  rintro e_ w_ ⟨rfl, rfl⟩
  go_wp2_with fail
  go_loopw [3] (fun kv wr => ∃ k : Nat, k ≤ H ∧ kv = .int .i64 (k : Int) ∧ Blk wr w.heap.size 51 #[.int .i64 (W : Int), .int .i64 (H : Int), .slice (some ⟨b, o, none⟩) H d] ∧ Below w.heap.size w wr) (fun kv _ => H - (intOf kv).toNat)
  case atStart => exact ⟨0, by omega, rfl, HK.out, HBW.out⟩
  case round =>
    clear HK HBW
    obtain ⟨k, hk, rfl, K, hbw⟩ := hrel
    have a1 := K.cell 1
    simp only [List.getElem?_toArray, List.getElem?_cons_succ, List.getElem?_cons_zero] at a1
    by_cases hlt : k < H
    · have d1 : decide ((k : Int) < (H : Int)) = true := by simp; omega
      have d3 : (k : Int) < (H : Int) := by omega
      obtain ⟨hl, Aj, cj, q1, q2⟩ := HC.out k hlt
      have x1 := (hbw.cell (p := ⟨b, o + k, none⟩) hbl).trans q1
      have lb := Nat.lt_of_lt_of_le hbl hbw.size
      have a0 := K.cell 0
      have a2 := K.cell 2
      simp only [List.getElem?_toArray, List.getElem?_cons_succ, List.getElem?_cons_zero] at a0 a2
      have lk := K.lt
      have HMJ := Lib.hid (fun (W' : World) (hW' : Below w.heap.size w W') => HMB.out k ▸ rmay_any Aj _ cj (rowsOf W R k) W W' (q2.below hW') hl)
      generalize (rowsOf W R k).length = nj at *
      have v0 := fun u : Up wr => (u.cell (p := ⟨w.heap.size, 0, none⟩) lk).trans a0
      have v2 := fun u : Up wr => (u.cell (p := ⟨w.heap.size, 2, none⟩) lk).trans a2
      have v3 := fun u : Up wr => (u.cell (p := ⟨b, o + k, none⟩) lb).trans x1
      have HU := Lib.hid (fun u : Up wr => up_of (HMJ.out u.val (btrans hbw u.ok)))
      have HK2 := Lib.hid K
      have HB2 := Lib.hid hbw
      clear K hbw HMJ q1 q2 hl
      go_wp2_with fail
      refine wp_region_up (by kernel_rfl) (by kernel_rfl) ?_
      repeat (go_big_quiet_step (fail))
      go_big_quiet_step (exact HU.out _)
      repeat (go_big_quiet_step (fail))
      refine wpQuiet_nil ?_
      rintro _ ⟨uq, rfl⟩
      have hK3 := Lib.hid (HK2.out.below uq.ok lk)
      have hB3 := Lib.hid (btrans HB2.out uq.ok)
      clear v0 v2 v3 HU HK2 HB2 a0 a1 a2 x1 lk lb
      generalize hwx : uq.val = wq at *
      clear hwx uq
      go_wp2_with fail
      go_roundw
      case rel => exact ⟨k + 1, by omega, by go_num, hK3.out, hB3.out⟩
      case measure => simp [intOf]; omega
    · obtain rfl : k = H := by omega
      have d1 : decide ((k : Int) < (k : Int)) = false := by simp
      have HB2 := Lib.hid hbw
      clear hbw K
      go_wp2_with fail
      go_ret
      exact ⟨rfl, HB2.out⟩
end Go.Proofs.Ytegpjjkbbdfggaa.rg

/-
  The reference's May of a page (tympanref36), IsSide (tympanref24).
-/
namespace Go.Proofs.Ytegpjjkbbdfggaa.ik
set_option linter.unusedVariables false
set_option linter.unusedSimpArgs false
open Go.RowKit bs

theorem isside_any (n : Int) (w : World) :
    Calls Try.prog 75 #[.int .i64 n] w fun e w' => e = .returned (.bool (sideB n)) ∧ w = w' := by
  by_cases h1 : 1 ≤ n
  · go_enter Try.func75, Try.ntmps75
    go_wp2_with fail
    go_ret
    exact ⟨ret_bool (by unfold sideB; simp; omega), rfl⟩
  · go_enter Try.func75, Try.ntmps75
    go_wp2_with fail
    go_ret
    exact ⟨ret_bool (by unfold sideB; simp; omega), rfl⟩
theorem rmay_any (W H : Int) (A : Option Addr) (n c : Nat) (w : World) (hn : n ≤ 9223372036854775807) :
    Calls Try.prog 116 #[.agg #[.int .i64 W, .int .i64 H, .slice A n c]] w fun e w' => e = .returned (.bool (mayB W H n)) ∧ Below w.heap.size w w' := by
  by_cases hW : 1 ≤ W ∧ W ≤ 64
  · have s1 := sideB_true hW.1 hW.2
    obtain ⟨w0, w1⟩ := hW
    by_cases hH : 1 ≤ H ∧ H ≤ 64
    · have s2 := sideB_true hH.1 hH.2
      obtain ⟨h0, h1⟩ := hH
      have hm : ∃ m, 3 * W * H = m ∧ 3 ≤ m ∧ m ≤ 12288 := by
        have a1 := Int.mul_le_mul (show 3 * W ≤ 192 by omega) h1 (by omega) (by omega)
        have a2 := Int.mul_le_mul (show 3 ≤ 3 * W by omega) h0 (by omega) (by omega)
        exact ⟨_, rfl, by omega, by omega⟩
      obtain ⟨m, hm, m0, m1⟩ := hm
      have he : mayB W H n = ((n : Int) == m) := by unfold mayB; rw [s1, s2, hm]; rfl
      rw [he]
      clear he
      go_enter Try.func116, Try.ntmps116
      go_wp2_with (go_at_call 75; refine (isside_any _ _).mono ?_; rintro e w' ⟨rfl, rfl⟩)
      go_ret
      exact ⟨rfl, by (repeat' (first | exact Below.refl _ _ | exact Below.refl _ _ | refine balloc ?_ _ | refine Below.drew ?_ | refine below_drewN ?_ _ | refine bset ?_ (by first | omega | (simp <;> omega)) _))⟩
    · have s2 : sideB H = false := sideB_false (by omega)
      have he : mayB W H n = false := by unfold mayB; rw [s1, s2]; rfl
      rw [he]
      clear he
      go_enter Try.func116, Try.ntmps116
      go_wp2_with (go_at_call 75; refine (isside_any _ _).mono ?_; rintro e w' ⟨rfl, rfl⟩)
      go_ret
      exact ⟨rfl, by (repeat' (first | exact Below.refl _ _ | exact Below.refl _ _ | refine balloc ?_ _ | refine Below.drew ?_ | refine below_drewN ?_ _ | refine bset ?_ (by first | omega | (simp <;> omega)) _))⟩
  · have s1 : sideB W = false := sideB_false (by omega)
    have he : mayB W H n = false := by unfold mayB; rw [s1]; rfl
    rw [he]
    clear he
    go_enter Try.func116, Try.ntmps116
    go_wp2_with (go_at_call 75; refine (isside_any _ _).mono ?_; rintro e w' ⟨rfl, rfl⟩)
    go_ret
    exact ⟨rfl, by (repeat' (first | exact Below.refl _ _ | exact Below.refl _ _ | refine balloc ?_ _ | refine Below.drew ?_ | refine below_drewN ?_ _ | refine bset ?_ (by first | omega | (simp <;> omega)) _))⟩

end Go.Proofs.Ytegpjjkbbdfggaa.ik

/-
  Regions of any values: region.May and the reference's MayRegion where the region may not be; rows that may be are the rows of their places.
-/
namespace Go.Proofs.Ytegpjjkbbdfggaa.im
set_option linter.unusedVariables false
set_option linter.unusedSimpArgs false
open Go.RowKit bs sp

theorem runs_far (x : Int) (l : List (Int × Int)) : ∀ (lo : Int), mayFrom x lo l = true → ∀ i : Nat, (i : Int) ≤ lo → inRuns l i = false := by
  induction l with
  | nil => intro lo _ i _; rfl
  | cons r t ih =>
    obtain ⟨a, b⟩ := r
    intro lo h i hi
    simp only [mayFrom, Bool.and_eq_true, decide_eq_true_eq] at h
    have := ih b h.2 i (by omega)
    unfold inRuns at this ⊢
    rw [List.any_cons, this]
    simp
    omega
theorem runs_end (x : Int) (l : List (Int × Int)) : ∀ (lo : Int), mayFrom x lo l = true → ∀ i : Nat, x ≤ (i : Int) → inRuns l i = false := by
  induction l with
  | nil => intro lo _ i _; rfl
  | cons r t ih =>
    obtain ⟨a, b⟩ := r
    intro lo h i hi
    simp only [mayFrom, Bool.and_eq_true, decide_eq_true_eq] at h
    have := ih b h.2 i hi
    unfold inRuns at this ⊢
    rw [List.any_cons, this]
    simp
    omega
theorem runs_cons (a b : Int) (t : List (Int × Int)) (i : Nat) : inRuns ((a, b) :: t) i = (decide (a ≤ (i : Int)) && decide ((i : Int) < b) || inRuns t i) := by
  unfold inRuns
  rw [List.any_cons]
theorem runs_uniq (x : Int) (l : List (Int × Int)) : ∀ (lo : Int) (m : List (Int × Int)), -1 ≤ lo → mayFrom x lo l = true → mayFrom x lo m = true → (∀ i : Nat, inRuns l i = inRuns m i) → l = m := by
  induction l with
  | nil =>
    intro lo m hlo _ hm h
    cases m with
    | nil => rfl
    | cons r u =>
      obtain ⟨c, d⟩ := r
      simp only [mayFrom, Bool.and_eq_true, decide_eq_true_eq] at hm
      obtain ⟨k, hk⟩ := Int.eq_ofNat_of_zero_le (show 0 ≤ c by omega)
      have := h k
      rw [runs_cons] at this
      simp [inRuns] at this
      omega
  | cons r t ih =>
    obtain ⟨a, b⟩ := r
    intro lo m hlo hl hm h
    simp only [mayFrom, Bool.and_eq_true, decide_eq_true_eq] at hl
    cases m with
    | nil =>
      obtain ⟨k, hk⟩ := Int.eq_ofNat_of_zero_le (show 0 ≤ a by omega)
      have := h k
      rw [runs_cons] at this
      simp [inRuns] at this
      omega
    | cons r' u =>
      obtain ⟨c, d⟩ := r'
      simp only [mayFrom, Bool.and_eq_true, decide_eq_true_eq] at hm
      have hac : a = c := by
        rcases Int.lt_trichotomy a c with g | g | g
        · obtain ⟨k, hk⟩ := Int.eq_ofNat_of_zero_le (show 0 ≤ a by omega)
          have h1 := h k
          rw [runs_cons, runs_cons, runs_far x u d hm.2 k (by omega), decide_eq_true (show a ≤ (k : Int) by omega), decide_eq_true (show (k : Int) < b by omega), decide_eq_false (show ¬ c ≤ (k : Int) by omega)] at h1
          simp at h1
        · exact g
        · obtain ⟨k, hk⟩ := Int.eq_ofNat_of_zero_le (show 0 ≤ c by omega)
          have h1 := h k
          rw [runs_cons, runs_cons, runs_far x t b hl.2 k (by omega), decide_eq_true (show c ≤ (k : Int) by omega), decide_eq_true (show (k : Int) < d by omega), decide_eq_false (show ¬ a ≤ (k : Int) by omega)] at h1
          simp at h1
      have hbd : b = d := by
        rcases Int.lt_trichotomy b d with g | g | g
        · obtain ⟨k, hk⟩ := Int.eq_ofNat_of_zero_le (show 0 ≤ b by omega)
          have h1 := h k
          rw [runs_cons, runs_cons, runs_far x t b hl.2 k (by omega), runs_far x u d hm.2 k (by omega), decide_eq_false (show ¬ (k : Int) < b by omega), decide_eq_true (show c ≤ (k : Int) by omega), decide_eq_true (show (k : Int) < d by omega)] at h1
          simp at h1
        · exact g
        · obtain ⟨k, hk⟩ := Int.eq_ofNat_of_zero_le (show 0 ≤ d by omega)
          have h1 := h k
          rw [runs_cons, runs_cons, runs_far x t b hl.2 k (by omega), runs_far x u d hm.2 k (by omega), decide_eq_false (show ¬ (k : Int) < d by omega), decide_eq_true (show a ≤ (k : Int) by omega), decide_eq_true (show (k : Int) < b by omega)] at h1
          simp at h1
      subst hac hbd
      congr 1
      refine ih b u (by omega) hl.2 hm.2 fun i => ?_
      have h1 := h i
      rw [runs_cons, runs_cons] at h1
      by_cases g : (i : Int) ≤ b
      · rw [runs_far x t b hl.2 i g, runs_far x u b hm.2 i g]
      · have e : decide ((i : Int) < b) = false := by simp; omega
        rw [e] at h1
        simpa using h1
theorem rows_canon {W : Nat} {l : List (Int × Int)} (h : sp.mayB l (W : Int) = true) : l = rl (inRuns l) W := by
  unfold sp.mayB at h
  simp only [Bool.and_eq_true] at h
  refine runs_uniq (W : Int) l (-1) _ (by omega) h.2 (may_rl _ _ _ (Int.le_refl _)) fun i => ?_
  rw [inRuns_rl]
  by_cases g : i < W
  · simp [g]
  · rw [runs_end (W : Int) l (-1) h.2 i (by omega)]
    simp
/-- the places of rows -/
def setOf (L : Nat → List (Int × Int)) (j i : Nat) : Bool := inRuns (L j) i
theorem Rows.canon {w : World} {A : Option Addr} {n c W : Nat} {L : Nat → List (Int × Int)} (h : rg.Rows w A n c L) (hL : ∀ j, j < n → sp.mayB (L j) (W : Int) = true) : rg.Rows w A n c (rg.rowsOf W (setOf L)) :=
  h.ext fun j hj => rows_canon (hL j hj)
/-- the first row that may not be -/
theorem first_no {n : Nat} {f : Nat → Bool} (h : ¬ ∀ j, j < n → f j = true) : ∃ k, k < n ∧ f k = false ∧ ∀ j, j < k → f j = true := by
  induction n with
  | zero => exact absurd (fun j hj => absurd hj (by omega)) h
  | succ n ih =>
    by_cases g : ∀ j, j < n → f j = true
    · refine ⟨n, by omega, ?_, g⟩
      cases hf : f n with
      | false => rfl
      | true =>
        refine absurd (fun j hj => ?_) h
        by_cases e : j = n
        · rw [e]; exact hf
        · exact g j (by omega)
    · obtain ⟨k, h1, h2, h3⟩ := ih g
      exact ⟨k, by omega, h2, h3⟩
set_option maxRecDepth 100000 in
set_option maxHeartbeats 1600000 in
theorem regmay_no1 (W H : Int) (n c : Nat) (A : Option Addr) (L : Nat → List (Int × Int)) (w : World) (hW : ik.sideB W = false) : Calls Try.prog 72 #[.agg #[.int .i64 W, .int .i64 H, .slice A n c]] w fun e w' => e = .returned (.bool false) ∧ Below w.heap.size w w' := by
  have HS1 := Lib.hid (fun W' => hW ▸ rg.rside_any W W')
  go_enter Try.func72, Try.ntmps72
  go_wp2_with fail
  refine (HS1.out _).mono ?_
  rintro e_ w_ ⟨rfl, rfl⟩
  go_wp2_with fail
  go_ret
  exact ⟨rfl, by (repeat' (first | exact Below.refl _ _ | exact Below.refl _ _ | refine balloc ?_ _ | refine Below.drew ?_ | refine below_drewN ?_ _ | refine bset ?_ (by first | omega | (simp <;> omega)) _))⟩
set_option maxRecDepth 100000 in
set_option maxHeartbeats 1600000 in
theorem regmay_no2 (W H : Int) (n c : Nat) (A : Option Addr) (L : Nat → List (Int × Int)) (w : World) (hW : ik.sideB W = true) (hH : ik.sideB H = false) : Calls Try.prog 72 #[.agg #[.int .i64 W, .int .i64 H, .slice A n c]] w fun e w' => e = .returned (.bool false) ∧ Below w.heap.size w w' := by
  have HS1 := Lib.hid (fun W' => hW ▸ rg.rside_any W W')
  have HS2 := Lib.hid (fun W' => hH ▸ rg.rside_any H W')
  go_enter Try.func72, Try.ntmps72
  go_wp2_with fail
  refine (HS1.out _).mono ?_
  rintro e_ w_ ⟨rfl, rfl⟩
  go_wp2_with fail
  refine (HS2.out _).mono ?_
  rintro e_ w_ ⟨rfl, rfl⟩
  go_wp2_with fail
  go_ret
  exact ⟨rfl, by (repeat' (first | exact Below.refl _ _ | exact Below.refl _ _ | refine balloc ?_ _ | refine Below.drew ?_ | refine below_drewN ?_ _ | refine bset ?_ (by first | omega | (simp <;> omega)) _))⟩
set_option maxRecDepth 100000 in
set_option maxHeartbeats 1600000 in
theorem regmay_no3 (W H : Int) (n c : Nat) (A : Option Addr) (L : Nat → List (Int × Int)) (w : World) (hW : ik.sideB W = true) (hH : ik.sideB H = true) (hn : ¬ (n : Int) = H) : Calls Try.prog 72 #[.agg #[.int .i64 W, .int .i64 H, .slice A n c]] w fun e w' => e = .returned (.bool false) ∧ Below w.heap.size w w' := by
  have HS1 := Lib.hid (fun W' => hW ▸ rg.rside_any W W')
  have HS2 := Lib.hid (fun W' => hH ▸ rg.rside_any H W')
  go_enter Try.func72, Try.ntmps72
  go_wp2_with fail
  refine (HS1.out _).mono ?_
  rintro e_ w_ ⟨rfl, rfl⟩
  go_wp2_with fail
  refine (HS2.out _).mono ?_
  rintro e_ w_ ⟨rfl, rfl⟩
  go_wp2_with fail
  go_ret
  exact ⟨rfl, by (repeat' (first | exact Below.refl _ _ | exact Below.refl _ _ | refine balloc ?_ _ | refine Below.drew ?_ | refine below_drewN ?_ _ | refine bset ?_ (by first | omega | (simp <;> omega)) _))⟩
set_option maxRecDepth 100000 in
set_option maxHeartbeats 1600000 in
theorem regmay_no4 (W : Int) (n c k0 : Nat) (A : Option Addr) (L : Nat → List (Int × Int)) (w : World) (hW : ik.sideB W = true) (hH : ik.sideB (n : Int) = true) (hr : rg.Rows w A n c L) (hk0 : k0 < n) (hno : sp.mayB (L k0) W = false) (hyes : ∀ j, j < k0 → sp.mayB (L j) W = true) :
    Calls Try.prog 72 #[.agg #[.int .i64 W, .int .i64 (n : Int), .slice A n c]] w fun e w' => e = .returned (.bool false) ∧ Below w.heap.size w w' := by
  have HS1 := Lib.hid (fun W' => hW ▸ rg.rside_any W W')
  have HS2 := Lib.hid (fun W' => hH ▸ rg.rside_any (n : Int) W')
  have hn64 : n ≤ 64 := by unfold ik.sideB at hH; simp at hH; omega
  have HNO := Lib.hid hno
  have HYES := Lib.hid hyes
  have HR := Lib.hid hr
  have HK0 := Lib.hid (Blk.new w 51 #[.int .i64 W, .int .i64 (n : Int), .slice A n c])
  have HB0 := Lib.hid (show Below w.heap.size w (w.alloc (.cells #[.int .i64 W, .int .i64 (n : Int), .slice A n c] 51)) from balloc (Below.refl _ _) _)
  clear hW hH hr hno hyes
  go_enter Try.func72, Try.ntmps72
  go_wp2_with fail
  refine (HS1.out _).mono ?_
  rintro e_ w_ ⟨rfl, rfl⟩
  go_wp2_with fail
  refine (HS2.out _).mono ?_
  rintro e_ w_ ⟨rfl, rfl⟩
  go_wp2_with fail
  go_loopw [4, 26] (fun lv kv wr => ∃ k : Nat, k ≤ k0 ∧ kv = .int .i64 (k : Int) ∧ Blk wr w.heap.size 51 #[.int .i64 W, .int .i64 (n : Int), .slice A n c] ∧ Below w.heap.size w wr) (fun _ kv _ => k0 - (intOf kv).toNat)
  case atStart => exact ⟨0, by omega, rfl, HK0.out, HB0.out⟩
  case round =>
    clear HK0 HB0
    obtain ⟨k, hk, rfl, K, hbw⟩ := hrel
    have hkn : k < n := by omega
    have d1 : decide ((k : Int) < (n : Int)) = true := by simp; omega
    obtain ⟨hcc, hat⟩ := HR.out.below hbw
    obtain ⟨b, o, rfl, hb, hat⟩ := hat (by omega)
    obtain ⟨hlen, Aj, cj, q1, q2⟩ := hat k hkn
    have c0 := K.cell 0
    have lK := K.lt
    simp only [List.getElem?_toArray, List.getElem?_cons_succ, List.getElem?_cons_zero] at c0
    have HM := Lib.hid (fun W' (hW' : Below wr.heap.size wr W') => may_any Aj _ cj (L k) W W' (q2.below hW') hlen)
    obtain ⟨bv, hbv⟩ : ∃ b, sp.mayB (L k) W = b := ⟨_, rfl⟩
    have HBV := Lib.hid hbv
    rw [hbv] at HM
    generalize (L k).length = nj at *
    have K0 := K
    have HK := Lib.hid K
    have HBW := Lib.hid hbw
    clear K hbw hat hcc hlen hbv
    go_wp2_with fail
    refine (HM.out _ (by (repeat' (first | exact Below.refl _ _ | exact Below.refl _ _ | refine balloc ?_ _ | refine Below.drew ?_ | refine below_drewN ?_ _ | refine bset ?_ (by first | omega | (simp <;> omega)) _)))).mono ?_
    rintro e w1 ⟨rfl, hb1⟩
    have K := HK.out.below hb1 lK
    have hbw := btrans HBW.out hb1
    clear HK HBW HM q1 q2 c0
    rcases (show bv = false ∨ bv = true by cases bv <;> simp) with h | h
    · subst h
      go_wp2_with fail
      go_ret
      exact ⟨rfl, hbw⟩
    · subst h
      have hk2 : k < k0 := by
        rcases Nat.lt_or_ge k k0 with g | g
        · exact g
        · have : k = k0 := by omega
          subst this
          have := HBV.out
          rw [HNO.out] at this
          cases this
      go_wp2_with fail
      go_roundw
      case rel => exact ⟨k + 1, by omega, by go_num, K, hbw⟩
      case measure => simp [intOf]; omega
set_option maxRecDepth 100000 in
set_option maxHeartbeats 1600000 in
theorem rregmay_no1 (W H : Int) (n c : Nat) (A : Option Addr) (L : Nat → List (Int × Int)) (w : World) (hW : ik.sideB W = false) : Calls Try.prog 117 #[.agg #[.int .i64 W, .int .i64 H, .slice A n c]] w fun e w' => e = .returned (.bool false) ∧ Below w.heap.size w w' := by
  have HS1 := Lib.hid (fun W' => hW ▸ ik.isside_any W W')
  go_enter Try.func117, Try.ntmps117
  go_wp2_with fail
  refine (HS1.out _).mono ?_
  rintro e_ w_ ⟨rfl, rfl⟩
  go_wp2_with fail
  go_ret
  exact ⟨rfl, by (repeat' (first | exact Below.refl _ _ | exact Below.refl _ _ | refine balloc ?_ _ | refine Below.drew ?_ | refine below_drewN ?_ _ | refine bset ?_ (by first | omega | (simp <;> omega)) _))⟩
set_option maxRecDepth 100000 in
set_option maxHeartbeats 1600000 in
theorem rregmay_no2 (W H : Int) (n c : Nat) (A : Option Addr) (L : Nat → List (Int × Int)) (w : World) (hW : ik.sideB W = true) (hH : ik.sideB H = false) : Calls Try.prog 117 #[.agg #[.int .i64 W, .int .i64 H, .slice A n c]] w fun e w' => e = .returned (.bool false) ∧ Below w.heap.size w w' := by
  have HS1 := Lib.hid (fun W' => hW ▸ ik.isside_any W W')
  have HS2 := Lib.hid (fun W' => hH ▸ ik.isside_any H W')
  go_enter Try.func117, Try.ntmps117
  go_wp2_with fail
  refine (HS1.out _).mono ?_
  rintro e_ w_ ⟨rfl, rfl⟩
  go_wp2_with fail
  refine (HS2.out _).mono ?_
  rintro e_ w_ ⟨rfl, rfl⟩
  go_wp2_with fail
  go_ret
  exact ⟨rfl, by (repeat' (first | exact Below.refl _ _ | exact Below.refl _ _ | refine balloc ?_ _ | refine Below.drew ?_ | refine below_drewN ?_ _ | refine bset ?_ (by first | omega | (simp <;> omega)) _))⟩
set_option maxRecDepth 100000 in
set_option maxHeartbeats 1600000 in
theorem rregmay_no3 (W H : Int) (n c : Nat) (A : Option Addr) (L : Nat → List (Int × Int)) (w : World) (hW : ik.sideB W = true) (hH : ik.sideB H = true) (hn : ¬ (n : Int) = H) : Calls Try.prog 117 #[.agg #[.int .i64 W, .int .i64 H, .slice A n c]] w fun e w' => e = .returned (.bool false) ∧ Below w.heap.size w w' := by
  have HS1 := Lib.hid (fun W' => hW ▸ ik.isside_any W W')
  have HS2 := Lib.hid (fun W' => hH ▸ ik.isside_any H W')
  go_enter Try.func117, Try.ntmps117
  go_wp2_with fail
  refine (HS1.out _).mono ?_
  rintro e_ w_ ⟨rfl, rfl⟩
  go_wp2_with fail
  refine (HS2.out _).mono ?_
  rintro e_ w_ ⟨rfl, rfl⟩
  go_wp2_with fail
  go_ret
  exact ⟨rfl, by (repeat' (first | exact Below.refl _ _ | exact Below.refl _ _ | refine balloc ?_ _ | refine Below.drew ?_ | refine below_drewN ?_ _ | refine bset ?_ (by first | omega | (simp <;> omega)) _))⟩
set_option maxRecDepth 100000 in
set_option maxHeartbeats 1600000 in
theorem rregmay_no4 (W : Int) (n c k0 : Nat) (A : Option Addr) (L : Nat → List (Int × Int)) (w : World) (hW : ik.sideB W = true) (hH : ik.sideB (n : Int) = true) (hr : rg.Rows w A n c L) (hk0 : k0 < n) (hno : sp.mayB (L k0) W = false) (hyes : ∀ j, j < k0 → sp.mayB (L j) W = true) :
    Calls Try.prog 117 #[.agg #[.int .i64 W, .int .i64 (n : Int), .slice A n c]] w fun e w' => e = .returned (.bool false) ∧ Below w.heap.size w w' := by
  have HS1 := Lib.hid (fun W' => hW ▸ ik.isside_any W W')
  have HS2 := Lib.hid (fun W' => hH ▸ ik.isside_any (n : Int) W')
  have hn64 : n ≤ 64 := by unfold ik.sideB at hH; simp at hH; omega
  have HNO := Lib.hid hno
  have HYES := Lib.hid hyes
  have HR := Lib.hid hr
  have HK0 := Lib.hid (Blk.new w 51 #[.int .i64 W, .int .i64 (n : Int), .slice A n c])
  have HB0 := Lib.hid (show Below w.heap.size w (w.alloc (.cells #[.int .i64 W, .int .i64 (n : Int), .slice A n c] 51)) from balloc (Below.refl _ _) _)
  clear hW hH hr hno hyes
  go_enter Try.func117, Try.ntmps117
  go_wp2_with fail
  refine (HS1.out _).mono ?_
  rintro e_ w_ ⟨rfl, rfl⟩
  go_wp2_with fail
  refine (HS2.out _).mono ?_
  rintro e_ w_ ⟨rfl, rfl⟩
  go_wp2_with fail
  go_loopw [3] (fun kv wr => ∃ k : Nat, k ≤ k0 ∧ kv = .int .i64 (k : Int) ∧ Blk wr w.heap.size 51 #[.int .i64 W, .int .i64 (n : Int), .slice A n c] ∧ Below w.heap.size w wr) (fun kv _ => k0 - (intOf kv).toNat)
  case atStart => exact ⟨0, by omega, rfl, HK0.out, HB0.out⟩
  case round =>
    clear HK0 HB0
    obtain ⟨k, hk, rfl, K, hbw⟩ := hrel
    have hkn : k < n := by omega
    have d1 : decide ((k : Int) < (n : Int)) = true := by simp; omega
    obtain ⟨hcc, hat⟩ := HR.out.below hbw
    obtain ⟨b, o, rfl, hb, hat⟩ := hat (by omega)
    obtain ⟨hlen, Aj, cj, q1, q2⟩ := hat k hkn
    have c0 := K.cell 0
    have lK := K.lt
    simp only [List.getElem?_toArray, List.getElem?_cons_succ, List.getElem?_cons_zero] at c0
    have HM := Lib.hid (fun W' (hW' : Below wr.heap.size wr W') => rg.rmay_any Aj _ cj (L k) W W' (q2.below hW') hlen)
    obtain ⟨bv, hbv⟩ : ∃ b, sp.mayB (L k) W = b := ⟨_, rfl⟩
    have HBV := Lib.hid hbv
    rw [hbv] at HM
    generalize (L k).length = nj at *
    have K0 := K
    have HK := Lib.hid K
    have HBW := Lib.hid hbw
    clear K hbw hat hcc hlen hbv
    have a0 := K0.cell 0
    have a1 := K0.cell 1
    have a2 := K0.cell 2
    simp only [List.getElem?_toArray, List.getElem?_cons_succ, List.getElem?_cons_zero] at a0 a1 a2
    have hki : (k : Int) < (n : Int) := by omega
    have v0 := fun u : Up wr => (u.cell (p := ⟨w.heap.size, 0, none⟩) lK).trans a0
    have v2 := fun u : Up wr => (u.cell (p := ⟨w.heap.size, 2, none⟩) lK).trans a2
    have v3 := fun u : Up wr => (u.cell (p := ⟨b, o + k, none⟩) hb).trans q1
    have HU := Lib.hid (fun u : Up wr => up_of (HM.out u.val u.ok))
    clear a0 a2 c0 HM q1 q2
    go_wp2_with fail
    refine wp_region_up (by kernel_rfl) (by kernel_rfl) ?_
    repeat (go_big_quiet_step (fail))
    go_big_quiet_step (exact HU.out _)
    repeat (go_big_quiet_step (fail))
    refine wpQuiet_nil ?_
    rintro _ ⟨uq, rfl⟩
    have K := HK.out.below uq.ok lK
    have hbw := btrans HBW.out uq.ok
    clear v0 v2 v3 HU HK HBW a1
    generalize hwx : uq.val = wq at *
    clear hwx uq
    rcases (show bv = false ∨ bv = true by cases bv <;> simp) with h | h
    · subst h
      go_wp2_with fail
      go_ret
      exact ⟨rfl, hbw⟩
    · subst h
      have hk2 : k < k0 := by
        rcases Nat.lt_or_ge k k0 with g | g
        · exact g
        · have : k = k0 := by omega
          subst this
          have := HBV.out
          rw [HNO.out] at this
          cases this
      go_wp2_with fail
      go_roundw
      case rel => exact ⟨k + 1, by omega, by go_num, K, hbw⟩
      case measure => simp [intOf]; omega
end Go.Proofs.Ytegpjjkbbdfggaa.im

/-
  The reference's fair. (PRUNE)
-/
namespace Go.Proofs.Ytegpjjkbbdfggaa.rg
set_option linter.unusedVariables false
set_option linter.unusedSimpArgs false
open Go.RowKit bs sp ik

set_option maxRecDepth 100000 in
set_option maxHeartbeats 1600000 in
theorem fair_yes (W H n c d : Nat) (A D : Option Addr) (R : Nat → Nat → Bool) (w : World) (hW : 1 ≤ W ∧ W ≤ 64) (hH : 1 ≤ H ∧ H ≤ 64) (hn : n = 3 * (W * H)) (hr : Rows w D H d (rowsOf W R)) :
    Calls Try.prog 77 #[.agg #[.int .i64 (W : Int), .int .i64 (H : Int), .slice A n c], .agg #[.int .i64 (W : Int), .int .i64 (H : Int), .slice D H d]] w fun e w' => e = .returned (.bool true) ∧ Below w.heap.size w w' := by
  have HM1 := Lib.hid (fun W' => may36_yes W H n c A W' hW hH hn)
  have HM2 := Lib.hid (fun W' (hW' : Below w.heap.size w W') => mayreg_yes W H d D R W' hW hH (hr.below hW'))
  have Kp := (Blk.new w 46 #[.int .i64 (W : Int), .int .i64 (H : Int), .slice A n c]).alloc (.cells #[.int .i64 (W : Int), .int .i64 (H : Int), .slice D H d] 51)
  have Kr := Blk.new (w.alloc (.cells #[.int .i64 (W : Int), .int .i64 (H : Int), .slice A n c] 46)) 51 #[.int .i64 (W : Int), .int .i64 (H : Int), .slice D H d]
  have s1 : ∀ (u : World) (o : Obj), (u.alloc o).heap.size = u.heap.size + 1 := fun u o => by simp
  simp only [s1] at Kr
  clear s1 hn hr hW hH
  go_enter Try.func77, Try.ntmps77
  go_wp2_with fail
  refine (HM1.out _).mono ?_
  rintro e_ w1 ⟨rfl, hb1⟩
  have hbw : Below w.heap.size w w1 := btrans (by (repeat' (first | exact Below.refl _ _ | exact Below.refl _ _ | refine balloc ?_ _ | refine Below.drew ?_ | refine below_drewN ?_ _ | refine bset ?_ (by first | omega | (simp <;> omega)) _))) hb1
  replace Kp := Kp.below hb1 (by first | (simp; done) | (simp; omega))
  replace Kr := Kr.below hb1 (by simp)
  have lp := Kp.lt
  have lr := Kr.lt
  have b0 := Kr.cell 0
  have b1 := Kr.cell 1
  have b2 := Kr.cell 2
  simp only [List.getElem?_toArray, List.getElem?_cons_succ, List.getElem?_cons_zero] at b0 b1 b2
  have HKp := Lib.hid Kp
  have HKr := Lib.hid Kr
  have HBW := Lib.hid hbw
  clear Kp Kr hbw hb1 HM1
  go_wp2_with fail
  refine (HM2.out _ HBW.out).mono ?_
  rintro e_ w2 ⟨rfl, hb1⟩
  have hbw := btrans HBW.out hb1
  have Kp := HKp.out.below hb1 lp
  have Kr := HKr.out.below hb1 lr
  clear HKp HKr HBW hb1 b0 b1 b2 lp lr HM2
  have a0 := Kp.cell 0
  have a1 := Kp.cell 1
  have b0 := Kr.cell 0
  have b1 := Kr.cell 1
  simp only [List.getElem?_toArray, List.getElem?_cons_succ, List.getElem?_cons_zero] at a0 a1 b0 b1
  have HBW := Lib.hid hbw
  clear Kp Kr hbw
  go_wp2_with fail
  go_ret
  exact ⟨rfl, HBW.out⟩

end Go.Proofs.Ytegpjjkbbdfggaa.rg

/-
  Layer 37: image.Region, image.Paint, and the reference's, where an argument may not be.
-/
namespace Go.Proofs.Ytegpjjkbbdfggaa.im
set_option linter.unusedVariables false
set_option linter.unusedSimpArgs false
open Go.RowKit bs sp
set_option maxRecDepth 100000 in
set_option maxHeartbeats 3200000 in
theorem over_no1 (IW IH IB ma mb mc md me mf : Int) (s : ByteArray) (t x y : Int) (w : World) (HL : Hid (∀ W', Calls Try.prog 58 #[.agg #[.int .i64 IW, .int .i64 IH, .int .i64 IB, .string s], .agg #[.int .i64 ma, .int .i64 mb, .int .i64 mc, .int .i64 md, .int .i64 me, .int .i64 mf]] W' fun ed w' => ed = .returned (.tuple #[.agg #[.int .i64 0, .int .i64 0, .int .i64 0, .string ⟨#[]⟩, .int .i64 0, .int .i64 0, .int .i64 0, .int .i64 0, .int .i64 0, .int .i64 0, .int .i64 0], .bool false]) ∧ Below W'.heap.size W' w'))  :
    Calls Try.prog 38 #[.agg #[.int .i64 IW, .int .i64 IH, .int .i64 IB, .string s], .agg #[.int .i64 ma, .int .i64 mb, .int .i64 mc, .int .i64 md, .int .i64 me, .int .i64 mf], .int .i64 x, .int .i64 y] w fun e w' => e = .returned (.tuple #[.agg #[.int .i64 0, .int .i64 0, .slice none 0 0], .int .i64 1]) ∧ Below w.heap.size w w' := by
  go_enter Try.func38, Try.ntmps38
  go_wp2_with fail
  have hst0 : Below w.heap.size w (((w.alloc (.cells #[.int .i64 IW, .int .i64 IH, .int .i64 IB, .string s] 23)).alloc (.cells #[.int .i64 ma, .int .i64 mb, .int .i64 mc, .int .i64 md, .int .i64 me, .int .i64 mf] 25)).alloc (.cells #[.int .i64 0, .int .i64 0, .slice none 0 0] 51)) := by (repeat' (first | exact Below.refl _ _ | exact Below.refl _ _ | refine balloc ?_ _ | refine Below.drew ?_ | refine below_drewN ?_ _ | refine bset ?_ (by first | omega | (simp <;> omega)) _))
  refine (HL.out _).mono ?_
  rintro e_ w1 ⟨rfl, hb⟩
  have hst : Below w.heap.size w w1 := btrans hst0 hb
  have Ki := (((Blk.new w 23 #[.int .i64 IW, .int .i64 IH, .int .i64 IB, .string s]).alloc (.cells #[.int .i64 ma, .int .i64 mb, .int .i64 mc, .int .i64 md, .int .i64 me, .int .i64 mf] 25)).alloc (.cells #[.int .i64 0, .int .i64 0, .slice none 0 0] 51))
  have Km := ((Blk.new (w.alloc (.cells #[.int .i64 IW, .int .i64 IH, .int .i64 IB, .string s] 23)) 25 #[.int .i64 ma, .int .i64 mb, .int .i64 mc, .int .i64 md, .int .i64 me, .int .i64 mf]).alloc (.cells #[.int .i64 0, .int .i64 0, .slice none 0 0] 51))
  have hz_Km : (w.alloc (.cells #[.int .i64 IW, .int .i64 IH, .int .i64 IB, .string s] 23)).heap.size = w.heap.size + 1 := by simp
  rw [hz_Km] at Km
  clear hz_Km
  have Kz := (Blk.new ((w.alloc (.cells #[.int .i64 IW, .int .i64 IH, .int .i64 IB, .string s] 23)).alloc (.cells #[.int .i64 ma, .int .i64 mb, .int .i64 mc, .int .i64 md, .int .i64 me, .int .i64 mf] 25)) 51 #[.int .i64 0, .int .i64 0, .slice none 0 0])
  have hz_Kz : ((w.alloc (.cells #[.int .i64 IW, .int .i64 IH, .int .i64 IB, .string s] 23)).alloc (.cells #[.int .i64 ma, .int .i64 mb, .int .i64 mc, .int .i64 md, .int .i64 me, .int .i64 mf] 25)).heap.size = w.heap.size + 1 + 1 := by simp
  rw [hz_Kz] at Kz
  clear hz_Kz
  replace Ki := Ki.below hb Ki.lt
  replace Km := Km.below hb Km.lt
  replace Kz := Kz.below hb Kz.lt
  have hbw : Below w.heap.size w w1 := hst
  clear hst hst0 hb 
  have lKi := Ki.lt
  have cKi0 := Ki.cell 0
  have cKi1 := Ki.cell 1
  have cKi2 := Ki.cell 2
  have cKi3 := Ki.cell 3
  have lKm := Km.lt
  have cKm0 := Km.cell 0
  have cKm1 := Km.cell 1
  have cKm2 := Km.cell 2
  have cKm3 := Km.cell 3
  have cKm4 := Km.cell 4
  have cKm5 := Km.cell 5
  have lKz := Kz.lt
  have cKz0 := Kz.cell 0
  have cKz1 := Kz.cell 1
  have cKz2 := Kz.cell 2
  have fKz0 := Kz.frozen 0
  have fKz1 := Kz.frozen 1
  have fKz2 := Kz.frozen 2
  simp only [List.getElem?_toArray, List.getElem?_cons_succ, List.getElem?_cons_zero] at cKi0 cKi1 cKi2 cKi3 cKm0 cKm1 cKm2 cKm3 cKm4 cKm5 cKz0 cKz1 cKz2
  have lz := lKz
  have HKz := Lib.hid Kz
  have HBW := Lib.hid hbw
  clear Kz hbw
  go_wp2_with fail
  have K := ((HKz.out.set_ 0 (.int .i64 0)).set_ 1 (.int .i64 0)).set_ 2 (.slice none 0 0)
  refine ret_struct2 (g := w.heap.size + 1 + 1) (t := 51) (cs := #[.int .i64 0, .int .i64 0, .slice none 0 0]) rfl rfl ?_ Try.underlying51 rfl rfl rfl ?_
  · first | exact K | exact K.alloc _
  · exact ⟨rfl, by (repeat' (first | refine bset ?_ (by first | omega | (simp <;> omega)) _ | refine balloc ?_ _ | refine Below.drew ?_ | refine below_drewN ?_ _ | exact HBW.out | exact Below.refl _ _))⟩
set_option maxRecDepth 100000 in
set_option maxHeartbeats 3200000 in
theorem over_no2 (IW IH IB ma mb mc md me mf : Int) (s : ByteArray) (t x y : Int) (w : World) (HL : Hid (∀ W', Calls Try.prog 58 #[.agg #[.int .i64 IW, .int .i64 IH, .int .i64 IB, .string s], .agg #[.int .i64 ma, .int .i64 mb, .int .i64 mc, .int .i64 md, .int .i64 me, .int .i64 mf]] W' fun ed w' => ed = .returned (.tuple #[.agg #[.int .i64 IW, .int .i64 IH, .int .i64 IB, .string s, .int .i64 ma, .int .i64 mb, .int .i64 mc, .int .i64 md, .int .i64 me, .int .i64 mf, .int .i64 t], .bool true]) ∧ Below W'.heap.size W' w')) (g1 : x < 1) :
    Calls Try.prog 38 #[.agg #[.int .i64 IW, .int .i64 IH, .int .i64 IB, .string s], .agg #[.int .i64 ma, .int .i64 mb, .int .i64 mc, .int .i64 md, .int .i64 me, .int .i64 mf], .int .i64 x, .int .i64 y] w fun e w' => e = .returned (.tuple #[.agg #[.int .i64 0, .int .i64 0, .slice none 0 0], .int .i64 1]) ∧ Below w.heap.size w w' := by
  have q1 : decide (x < 1) = true := by simp; omega
  go_enter Try.func38, Try.ntmps38
  go_wp2_with fail
  have hst0 : Below w.heap.size w (((w.alloc (.cells #[.int .i64 IW, .int .i64 IH, .int .i64 IB, .string s] 23)).alloc (.cells #[.int .i64 ma, .int .i64 mb, .int .i64 mc, .int .i64 md, .int .i64 me, .int .i64 mf] 25)).alloc (.cells #[.int .i64 0, .int .i64 0, .slice none 0 0] 51)) := by (repeat' (first | exact Below.refl _ _ | exact Below.refl _ _ | refine balloc ?_ _ | refine Below.drew ?_ | refine below_drewN ?_ _ | refine bset ?_ (by first | omega | (simp <;> omega)) _))
  refine (HL.out _).mono ?_
  rintro e_ w1 ⟨rfl, hb⟩
  have hst : Below w.heap.size w w1 := btrans hst0 hb
  have Ki := (((Blk.new w 23 #[.int .i64 IW, .int .i64 IH, .int .i64 IB, .string s]).alloc (.cells #[.int .i64 ma, .int .i64 mb, .int .i64 mc, .int .i64 md, .int .i64 me, .int .i64 mf] 25)).alloc (.cells #[.int .i64 0, .int .i64 0, .slice none 0 0] 51))
  have Km := ((Blk.new (w.alloc (.cells #[.int .i64 IW, .int .i64 IH, .int .i64 IB, .string s] 23)) 25 #[.int .i64 ma, .int .i64 mb, .int .i64 mc, .int .i64 md, .int .i64 me, .int .i64 mf]).alloc (.cells #[.int .i64 0, .int .i64 0, .slice none 0 0] 51))
  have hz_Km : (w.alloc (.cells #[.int .i64 IW, .int .i64 IH, .int .i64 IB, .string s] 23)).heap.size = w.heap.size + 1 := by simp
  rw [hz_Km] at Km
  clear hz_Km
  have Kz := (Blk.new ((w.alloc (.cells #[.int .i64 IW, .int .i64 IH, .int .i64 IB, .string s] 23)).alloc (.cells #[.int .i64 ma, .int .i64 mb, .int .i64 mc, .int .i64 md, .int .i64 me, .int .i64 mf] 25)) 51 #[.int .i64 0, .int .i64 0, .slice none 0 0])
  have hz_Kz : ((w.alloc (.cells #[.int .i64 IW, .int .i64 IH, .int .i64 IB, .string s] 23)).alloc (.cells #[.int .i64 ma, .int .i64 mb, .int .i64 mc, .int .i64 md, .int .i64 me, .int .i64 mf] 25)).heap.size = w.heap.size + 1 + 1 := by simp
  rw [hz_Kz] at Kz
  clear hz_Kz
  replace Ki := Ki.below hb Ki.lt
  replace Km := Km.below hb Km.lt
  replace Kz := Kz.below hb Kz.lt
  have hbw : Below w.heap.size w w1 := hst
  clear hst hst0 hb 
  have lKi := Ki.lt
  have cKi0 := Ki.cell 0
  have cKi1 := Ki.cell 1
  have cKi2 := Ki.cell 2
  have cKi3 := Ki.cell 3
  have lKm := Km.lt
  have cKm0 := Km.cell 0
  have cKm1 := Km.cell 1
  have cKm2 := Km.cell 2
  have cKm3 := Km.cell 3
  have cKm4 := Km.cell 4
  have cKm5 := Km.cell 5
  have lKz := Kz.lt
  have cKz0 := Kz.cell 0
  have cKz1 := Kz.cell 1
  have cKz2 := Kz.cell 2
  have fKz0 := Kz.frozen 0
  have fKz1 := Kz.frozen 1
  have fKz2 := Kz.frozen 2
  simp only [List.getElem?_toArray, List.getElem?_cons_succ, List.getElem?_cons_zero] at cKi0 cKi1 cKi2 cKi3 cKm0 cKm1 cKm2 cKm3 cKm4 cKm5 cKz0 cKz1 cKz2
  have lz := lKz
  have HKz := Lib.hid Kz
  have HBW := Lib.hid hbw
  clear Kz hbw
  go_wp2_with fail
  have K := ((HKz.out.set_ 0 (.int .i64 0)).set_ 1 (.int .i64 0)).set_ 2 (.slice none 0 0)
  refine ret_struct2 (g := w.heap.size + 1 + 1) (t := 51) (cs := #[.int .i64 0, .int .i64 0, .slice none 0 0]) rfl rfl ?_ Try.underlying51 rfl rfl rfl ?_
  · first | exact K | exact K.alloc _
  · exact ⟨rfl, by (repeat' (first | refine bset ?_ (by first | omega | (simp <;> omega)) _ | refine balloc ?_ _ | refine Below.drew ?_ | refine below_drewN ?_ _ | exact HBW.out | exact Below.refl _ _))⟩
set_option maxRecDepth 100000 in
set_option maxHeartbeats 3200000 in
theorem over_no3 (IW IH IB ma mb mc md me mf : Int) (s : ByteArray) (t x y : Int) (w : World) (HL : Hid (∀ W', Calls Try.prog 58 #[.agg #[.int .i64 IW, .int .i64 IH, .int .i64 IB, .string s], .agg #[.int .i64 ma, .int .i64 mb, .int .i64 mc, .int .i64 md, .int .i64 me, .int .i64 mf]] W' fun ed w' => ed = .returned (.tuple #[.agg #[.int .i64 IW, .int .i64 IH, .int .i64 IB, .string s, .int .i64 ma, .int .i64 mb, .int .i64 mc, .int .i64 md, .int .i64 me, .int .i64 mf, .int .i64 t], .bool true]) ∧ Below W'.heap.size W' w')) (g1 : ¬ x < 1) (g2 : 64 < x) :
    Calls Try.prog 38 #[.agg #[.int .i64 IW, .int .i64 IH, .int .i64 IB, .string s], .agg #[.int .i64 ma, .int .i64 mb, .int .i64 mc, .int .i64 md, .int .i64 me, .int .i64 mf], .int .i64 x, .int .i64 y] w fun e w' => e = .returned (.tuple #[.agg #[.int .i64 0, .int .i64 0, .slice none 0 0], .int .i64 1]) ∧ Below w.heap.size w w' := by
  have q1 : decide (x < 1) = false := by simp; omega
  have q2 : decide (x > 64) = true := by simp; omega
  have q2' : decide (64 < x) = true := by simp; omega
  go_enter Try.func38, Try.ntmps38
  go_wp2_with fail
  have hst0 : Below w.heap.size w (((w.alloc (.cells #[.int .i64 IW, .int .i64 IH, .int .i64 IB, .string s] 23)).alloc (.cells #[.int .i64 ma, .int .i64 mb, .int .i64 mc, .int .i64 md, .int .i64 me, .int .i64 mf] 25)).alloc (.cells #[.int .i64 0, .int .i64 0, .slice none 0 0] 51)) := by (repeat' (first | exact Below.refl _ _ | exact Below.refl _ _ | refine balloc ?_ _ | refine Below.drew ?_ | refine below_drewN ?_ _ | refine bset ?_ (by first | omega | (simp <;> omega)) _))
  refine (HL.out _).mono ?_
  rintro e_ w1 ⟨rfl, hb⟩
  have hst : Below w.heap.size w w1 := btrans hst0 hb
  have Ki := (((Blk.new w 23 #[.int .i64 IW, .int .i64 IH, .int .i64 IB, .string s]).alloc (.cells #[.int .i64 ma, .int .i64 mb, .int .i64 mc, .int .i64 md, .int .i64 me, .int .i64 mf] 25)).alloc (.cells #[.int .i64 0, .int .i64 0, .slice none 0 0] 51))
  have Km := ((Blk.new (w.alloc (.cells #[.int .i64 IW, .int .i64 IH, .int .i64 IB, .string s] 23)) 25 #[.int .i64 ma, .int .i64 mb, .int .i64 mc, .int .i64 md, .int .i64 me, .int .i64 mf]).alloc (.cells #[.int .i64 0, .int .i64 0, .slice none 0 0] 51))
  have hz_Km : (w.alloc (.cells #[.int .i64 IW, .int .i64 IH, .int .i64 IB, .string s] 23)).heap.size = w.heap.size + 1 := by simp
  rw [hz_Km] at Km
  clear hz_Km
  have Kz := (Blk.new ((w.alloc (.cells #[.int .i64 IW, .int .i64 IH, .int .i64 IB, .string s] 23)).alloc (.cells #[.int .i64 ma, .int .i64 mb, .int .i64 mc, .int .i64 md, .int .i64 me, .int .i64 mf] 25)) 51 #[.int .i64 0, .int .i64 0, .slice none 0 0])
  have hz_Kz : ((w.alloc (.cells #[.int .i64 IW, .int .i64 IH, .int .i64 IB, .string s] 23)).alloc (.cells #[.int .i64 ma, .int .i64 mb, .int .i64 mc, .int .i64 md, .int .i64 me, .int .i64 mf] 25)).heap.size = w.heap.size + 1 + 1 := by simp
  rw [hz_Kz] at Kz
  clear hz_Kz
  replace Ki := Ki.below hb Ki.lt
  replace Km := Km.below hb Km.lt
  replace Kz := Kz.below hb Kz.lt
  have hbw : Below w.heap.size w w1 := hst
  clear hst hst0 hb 
  have lKi := Ki.lt
  have cKi0 := Ki.cell 0
  have cKi1 := Ki.cell 1
  have cKi2 := Ki.cell 2
  have cKi3 := Ki.cell 3
  have lKm := Km.lt
  have cKm0 := Km.cell 0
  have cKm1 := Km.cell 1
  have cKm2 := Km.cell 2
  have cKm3 := Km.cell 3
  have cKm4 := Km.cell 4
  have cKm5 := Km.cell 5
  have lKz := Kz.lt
  have cKz0 := Kz.cell 0
  have cKz1 := Kz.cell 1
  have cKz2 := Kz.cell 2
  have fKz0 := Kz.frozen 0
  have fKz1 := Kz.frozen 1
  have fKz2 := Kz.frozen 2
  simp only [List.getElem?_toArray, List.getElem?_cons_succ, List.getElem?_cons_zero] at cKi0 cKi1 cKi2 cKi3 cKm0 cKm1 cKm2 cKm3 cKm4 cKm5 cKz0 cKz1 cKz2
  have lz := lKz
  have HKz := Lib.hid Kz
  have HBW := Lib.hid hbw
  clear Kz hbw
  go_wp2_with fail
  have K := ((HKz.out.set_ 0 (.int .i64 0)).set_ 1 (.int .i64 0)).set_ 2 (.slice none 0 0)
  refine ret_struct2 (g := w.heap.size + 1 + 1) (t := 51) (cs := #[.int .i64 0, .int .i64 0, .slice none 0 0]) rfl rfl ?_ Try.underlying51 rfl rfl rfl ?_
  · first | exact K | exact K.alloc _
  · exact ⟨rfl, by (repeat' (first | refine bset ?_ (by first | omega | (simp <;> omega)) _ | refine balloc ?_ _ | refine Below.drew ?_ | refine below_drewN ?_ _ | exact HBW.out | exact Below.refl _ _))⟩
set_option maxRecDepth 100000 in
set_option maxHeartbeats 3200000 in
theorem over_no4 (IW IH IB ma mb mc md me mf : Int) (s : ByteArray) (t x y : Int) (w : World) (HL : Hid (∀ W', Calls Try.prog 58 #[.agg #[.int .i64 IW, .int .i64 IH, .int .i64 IB, .string s], .agg #[.int .i64 ma, .int .i64 mb, .int .i64 mc, .int .i64 md, .int .i64 me, .int .i64 mf]] W' fun ed w' => ed = .returned (.tuple #[.agg #[.int .i64 IW, .int .i64 IH, .int .i64 IB, .string s, .int .i64 ma, .int .i64 mb, .int .i64 mc, .int .i64 md, .int .i64 me, .int .i64 mf, .int .i64 t], .bool true]) ∧ Below W'.heap.size W' w')) (g1 : ¬ x < 1) (g2 : ¬ 64 < x) (g3 : y < 1) :
    Calls Try.prog 38 #[.agg #[.int .i64 IW, .int .i64 IH, .int .i64 IB, .string s], .agg #[.int .i64 ma, .int .i64 mb, .int .i64 mc, .int .i64 md, .int .i64 me, .int .i64 mf], .int .i64 x, .int .i64 y] w fun e w' => e = .returned (.tuple #[.agg #[.int .i64 0, .int .i64 0, .slice none 0 0], .int .i64 1]) ∧ Below w.heap.size w w' := by
  have q1 : decide (x < 1) = false := by simp; omega
  have q2 : decide (x > 64) = false := by simp; omega
  have q2' : decide (64 < x) = false := by simp; omega
  have q3 : decide (y < 1) = true := by simp; omega
  go_enter Try.func38, Try.ntmps38
  go_wp2_with fail
  have hst0 : Below w.heap.size w (((w.alloc (.cells #[.int .i64 IW, .int .i64 IH, .int .i64 IB, .string s] 23)).alloc (.cells #[.int .i64 ma, .int .i64 mb, .int .i64 mc, .int .i64 md, .int .i64 me, .int .i64 mf] 25)).alloc (.cells #[.int .i64 0, .int .i64 0, .slice none 0 0] 51)) := by (repeat' (first | exact Below.refl _ _ | exact Below.refl _ _ | refine balloc ?_ _ | refine Below.drew ?_ | refine below_drewN ?_ _ | refine bset ?_ (by first | omega | (simp <;> omega)) _))
  refine (HL.out _).mono ?_
  rintro e_ w1 ⟨rfl, hb⟩
  have hst : Below w.heap.size w w1 := btrans hst0 hb
  have Ki := (((Blk.new w 23 #[.int .i64 IW, .int .i64 IH, .int .i64 IB, .string s]).alloc (.cells #[.int .i64 ma, .int .i64 mb, .int .i64 mc, .int .i64 md, .int .i64 me, .int .i64 mf] 25)).alloc (.cells #[.int .i64 0, .int .i64 0, .slice none 0 0] 51))
  have Km := ((Blk.new (w.alloc (.cells #[.int .i64 IW, .int .i64 IH, .int .i64 IB, .string s] 23)) 25 #[.int .i64 ma, .int .i64 mb, .int .i64 mc, .int .i64 md, .int .i64 me, .int .i64 mf]).alloc (.cells #[.int .i64 0, .int .i64 0, .slice none 0 0] 51))
  have hz_Km : (w.alloc (.cells #[.int .i64 IW, .int .i64 IH, .int .i64 IB, .string s] 23)).heap.size = w.heap.size + 1 := by simp
  rw [hz_Km] at Km
  clear hz_Km
  have Kz := (Blk.new ((w.alloc (.cells #[.int .i64 IW, .int .i64 IH, .int .i64 IB, .string s] 23)).alloc (.cells #[.int .i64 ma, .int .i64 mb, .int .i64 mc, .int .i64 md, .int .i64 me, .int .i64 mf] 25)) 51 #[.int .i64 0, .int .i64 0, .slice none 0 0])
  have hz_Kz : ((w.alloc (.cells #[.int .i64 IW, .int .i64 IH, .int .i64 IB, .string s] 23)).alloc (.cells #[.int .i64 ma, .int .i64 mb, .int .i64 mc, .int .i64 md, .int .i64 me, .int .i64 mf] 25)).heap.size = w.heap.size + 1 + 1 := by simp
  rw [hz_Kz] at Kz
  clear hz_Kz
  replace Ki := Ki.below hb Ki.lt
  replace Km := Km.below hb Km.lt
  replace Kz := Kz.below hb Kz.lt
  have hbw : Below w.heap.size w w1 := hst
  clear hst hst0 hb 
  have lKi := Ki.lt
  have cKi0 := Ki.cell 0
  have cKi1 := Ki.cell 1
  have cKi2 := Ki.cell 2
  have cKi3 := Ki.cell 3
  have lKm := Km.lt
  have cKm0 := Km.cell 0
  have cKm1 := Km.cell 1
  have cKm2 := Km.cell 2
  have cKm3 := Km.cell 3
  have cKm4 := Km.cell 4
  have cKm5 := Km.cell 5
  have lKz := Kz.lt
  have cKz0 := Kz.cell 0
  have cKz1 := Kz.cell 1
  have cKz2 := Kz.cell 2
  have fKz0 := Kz.frozen 0
  have fKz1 := Kz.frozen 1
  have fKz2 := Kz.frozen 2
  simp only [List.getElem?_toArray, List.getElem?_cons_succ, List.getElem?_cons_zero] at cKi0 cKi1 cKi2 cKi3 cKm0 cKm1 cKm2 cKm3 cKm4 cKm5 cKz0 cKz1 cKz2
  have lz := lKz
  have HKz := Lib.hid Kz
  have HBW := Lib.hid hbw
  clear Kz hbw
  go_wp2_with fail
  have K := ((HKz.out.set_ 0 (.int .i64 0)).set_ 1 (.int .i64 0)).set_ 2 (.slice none 0 0)
  refine ret_struct2 (g := w.heap.size + 1 + 1) (t := 51) (cs := #[.int .i64 0, .int .i64 0, .slice none 0 0]) rfl rfl ?_ Try.underlying51 rfl rfl rfl ?_
  · first | exact K | exact K.alloc _
  · exact ⟨rfl, by (repeat' (first | refine bset ?_ (by first | omega | (simp <;> omega)) _ | refine balloc ?_ _ | refine Below.drew ?_ | refine below_drewN ?_ _ | exact HBW.out | exact Below.refl _ _))⟩
set_option maxRecDepth 100000 in
set_option maxHeartbeats 3200000 in
theorem over_no5 (IW IH IB ma mb mc md me mf : Int) (s : ByteArray) (t x y : Int) (w : World) (HL : Hid (∀ W', Calls Try.prog 58 #[.agg #[.int .i64 IW, .int .i64 IH, .int .i64 IB, .string s], .agg #[.int .i64 ma, .int .i64 mb, .int .i64 mc, .int .i64 md, .int .i64 me, .int .i64 mf]] W' fun ed w' => ed = .returned (.tuple #[.agg #[.int .i64 IW, .int .i64 IH, .int .i64 IB, .string s, .int .i64 ma, .int .i64 mb, .int .i64 mc, .int .i64 md, .int .i64 me, .int .i64 mf, .int .i64 t], .bool true]) ∧ Below W'.heap.size W' w')) (g1 : ¬ x < 1) (g2 : ¬ 64 < x) (g3 : ¬ y < 1) (g4 : 64 < y) :
    Calls Try.prog 38 #[.agg #[.int .i64 IW, .int .i64 IH, .int .i64 IB, .string s], .agg #[.int .i64 ma, .int .i64 mb, .int .i64 mc, .int .i64 md, .int .i64 me, .int .i64 mf], .int .i64 x, .int .i64 y] w fun e w' => e = .returned (.tuple #[.agg #[.int .i64 0, .int .i64 0, .slice none 0 0], .int .i64 1]) ∧ Below w.heap.size w w' := by
  have q1 : decide (x < 1) = false := by simp; omega
  have q2 : decide (x > 64) = false := by simp; omega
  have q2' : decide (64 < x) = false := by simp; omega
  have q3 : decide (y < 1) = false := by simp; omega
  have q4 : decide (y > 64) = true := by simp; omega
  have q4' : decide (64 < y) = true := by simp; omega
  go_enter Try.func38, Try.ntmps38
  go_wp2_with fail
  have hst0 : Below w.heap.size w (((w.alloc (.cells #[.int .i64 IW, .int .i64 IH, .int .i64 IB, .string s] 23)).alloc (.cells #[.int .i64 ma, .int .i64 mb, .int .i64 mc, .int .i64 md, .int .i64 me, .int .i64 mf] 25)).alloc (.cells #[.int .i64 0, .int .i64 0, .slice none 0 0] 51)) := by (repeat' (first | exact Below.refl _ _ | exact Below.refl _ _ | refine balloc ?_ _ | refine Below.drew ?_ | refine below_drewN ?_ _ | refine bset ?_ (by first | omega | (simp <;> omega)) _))
  refine (HL.out _).mono ?_
  rintro e_ w1 ⟨rfl, hb⟩
  have hst : Below w.heap.size w w1 := btrans hst0 hb
  have Ki := (((Blk.new w 23 #[.int .i64 IW, .int .i64 IH, .int .i64 IB, .string s]).alloc (.cells #[.int .i64 ma, .int .i64 mb, .int .i64 mc, .int .i64 md, .int .i64 me, .int .i64 mf] 25)).alloc (.cells #[.int .i64 0, .int .i64 0, .slice none 0 0] 51))
  have Km := ((Blk.new (w.alloc (.cells #[.int .i64 IW, .int .i64 IH, .int .i64 IB, .string s] 23)) 25 #[.int .i64 ma, .int .i64 mb, .int .i64 mc, .int .i64 md, .int .i64 me, .int .i64 mf]).alloc (.cells #[.int .i64 0, .int .i64 0, .slice none 0 0] 51))
  have hz_Km : (w.alloc (.cells #[.int .i64 IW, .int .i64 IH, .int .i64 IB, .string s] 23)).heap.size = w.heap.size + 1 := by simp
  rw [hz_Km] at Km
  clear hz_Km
  have Kz := (Blk.new ((w.alloc (.cells #[.int .i64 IW, .int .i64 IH, .int .i64 IB, .string s] 23)).alloc (.cells #[.int .i64 ma, .int .i64 mb, .int .i64 mc, .int .i64 md, .int .i64 me, .int .i64 mf] 25)) 51 #[.int .i64 0, .int .i64 0, .slice none 0 0])
  have hz_Kz : ((w.alloc (.cells #[.int .i64 IW, .int .i64 IH, .int .i64 IB, .string s] 23)).alloc (.cells #[.int .i64 ma, .int .i64 mb, .int .i64 mc, .int .i64 md, .int .i64 me, .int .i64 mf] 25)).heap.size = w.heap.size + 1 + 1 := by simp
  rw [hz_Kz] at Kz
  clear hz_Kz
  replace Ki := Ki.below hb Ki.lt
  replace Km := Km.below hb Km.lt
  replace Kz := Kz.below hb Kz.lt
  have hbw : Below w.heap.size w w1 := hst
  clear hst hst0 hb 
  have lKi := Ki.lt
  have cKi0 := Ki.cell 0
  have cKi1 := Ki.cell 1
  have cKi2 := Ki.cell 2
  have cKi3 := Ki.cell 3
  have lKm := Km.lt
  have cKm0 := Km.cell 0
  have cKm1 := Km.cell 1
  have cKm2 := Km.cell 2
  have cKm3 := Km.cell 3
  have cKm4 := Km.cell 4
  have cKm5 := Km.cell 5
  have lKz := Kz.lt
  have cKz0 := Kz.cell 0
  have cKz1 := Kz.cell 1
  have cKz2 := Kz.cell 2
  have fKz0 := Kz.frozen 0
  have fKz1 := Kz.frozen 1
  have fKz2 := Kz.frozen 2
  simp only [List.getElem?_toArray, List.getElem?_cons_succ, List.getElem?_cons_zero] at cKi0 cKi1 cKi2 cKi3 cKm0 cKm1 cKm2 cKm3 cKm4 cKm5 cKz0 cKz1 cKz2
  have lz := lKz
  have HKz := Lib.hid Kz
  have HBW := Lib.hid hbw
  clear Kz hbw
  go_wp2_with fail
  have K := ((HKz.out.set_ 0 (.int .i64 0)).set_ 1 (.int .i64 0)).set_ 2 (.slice none 0 0)
  refine ret_struct2 (g := w.heap.size + 1 + 1) (t := 51) (cs := #[.int .i64 0, .int .i64 0, .slice none 0 0]) rfl rfl ?_ Try.underlying51 rfl rfl rfl ?_
  · first | exact K | exact K.alloc _
  · exact ⟨rfl, by (repeat' (first | refine bset ?_ (by first | omega | (simp <;> omega)) _ | refine balloc ?_ _ | refine Below.drew ?_ | refine below_drewN ?_ _ | exact HBW.out | exact Below.refl _ _))⟩
set_option maxRecDepth 100000 in
set_option maxHeartbeats 3200000 in
theorem rover_no1 (IW IH IB ma mb mc md me mf : Int) (s : ByteArray) (x y : Int) (w : World) (H0 : Hid (∀ W', Calls Try.prog 15 #[.agg #[.int .i64 IW, .int .i64 IH, .int .i64 IB, .string s]] W' fun ed w' => ed = .returned (.bool false) ∧ Below W'.heap.size W' w')) :
    Calls Try.prog 39 #[.agg #[.int .i64 IW, .int .i64 IH, .int .i64 IB, .string s], .agg #[.int .i64 ma, .int .i64 mb, .int .i64 mc, .int .i64 md, .int .i64 me, .int .i64 mf], .int .i64 x, .int .i64 y] w fun e w' => e = .returned (.tuple #[.agg #[.int .i64 0, .int .i64 0, .slice none 0 0], .int .i64 1]) ∧ Below w.heap.size w w' := by
  go_enter Try.func39, Try.ntmps39
  go_wp2_with fail
  have hst0 : Below w.heap.size w (((w.alloc (.cells #[.int .i64 IW, .int .i64 IH, .int .i64 IB, .string s] 23)).alloc (.cells #[.int .i64 ma, .int .i64 mb, .int .i64 mc, .int .i64 md, .int .i64 me, .int .i64 mf] 25)).alloc (.cells #[.int .i64 0, .int .i64 0, .slice none 0 0] 51)) := by (repeat' (first | exact Below.refl _ _ | exact Below.refl _ _ | refine balloc ?_ _ | refine Below.drew ?_ | refine below_drewN ?_ _ | refine bset ?_ (by first | omega | (simp <;> omega)) _))
  refine (H0.out _).mono ?_
  rintro e_ w1 ⟨rfl, hb⟩
  have hst : Below w.heap.size w w1 := btrans hst0 hb
  have Ki := (((Blk.new w 23 #[.int .i64 IW, .int .i64 IH, .int .i64 IB, .string s]).alloc (.cells #[.int .i64 ma, .int .i64 mb, .int .i64 mc, .int .i64 md, .int .i64 me, .int .i64 mf] 25)).alloc (.cells #[.int .i64 0, .int .i64 0, .slice none 0 0] 51))
  have Km := ((Blk.new (w.alloc (.cells #[.int .i64 IW, .int .i64 IH, .int .i64 IB, .string s] 23)) 25 #[.int .i64 ma, .int .i64 mb, .int .i64 mc, .int .i64 md, .int .i64 me, .int .i64 mf]).alloc (.cells #[.int .i64 0, .int .i64 0, .slice none 0 0] 51))
  have hz_Km : (w.alloc (.cells #[.int .i64 IW, .int .i64 IH, .int .i64 IB, .string s] 23)).heap.size = w.heap.size + 1 := by simp
  rw [hz_Km] at Km
  clear hz_Km
  have Kz := (Blk.new ((w.alloc (.cells #[.int .i64 IW, .int .i64 IH, .int .i64 IB, .string s] 23)).alloc (.cells #[.int .i64 ma, .int .i64 mb, .int .i64 mc, .int .i64 md, .int .i64 me, .int .i64 mf] 25)) 51 #[.int .i64 0, .int .i64 0, .slice none 0 0])
  have hz_Kz : ((w.alloc (.cells #[.int .i64 IW, .int .i64 IH, .int .i64 IB, .string s] 23)).alloc (.cells #[.int .i64 ma, .int .i64 mb, .int .i64 mc, .int .i64 md, .int .i64 me, .int .i64 mf] 25)).heap.size = w.heap.size + 1 + 1 := by simp
  rw [hz_Kz] at Kz
  clear hz_Kz
  replace Ki := Ki.below hb Ki.lt
  replace Km := Km.below hb Km.lt
  replace Kz := Kz.below hb Kz.lt
  have hbw : Below w.heap.size w w1 := hst
  clear hst hst0 hb 
  have lKi := Ki.lt
  have cKi0 := Ki.cell 0
  have cKi1 := Ki.cell 1
  have cKi2 := Ki.cell 2
  have cKi3 := Ki.cell 3
  have lKm := Km.lt
  have cKm0 := Km.cell 0
  have cKm1 := Km.cell 1
  have cKm2 := Km.cell 2
  have cKm3 := Km.cell 3
  have cKm4 := Km.cell 4
  have cKm5 := Km.cell 5
  have lKz := Kz.lt
  have cKz0 := Kz.cell 0
  have cKz1 := Kz.cell 1
  have cKz2 := Kz.cell 2
  have fKz0 := Kz.frozen 0
  have fKz1 := Kz.frozen 1
  have fKz2 := Kz.frozen 2
  simp only [List.getElem?_toArray, List.getElem?_cons_succ, List.getElem?_cons_zero] at cKi0 cKi1 cKi2 cKi3 cKm0 cKm1 cKm2 cKm3 cKm4 cKm5 cKz0 cKz1 cKz2
  have HKz := Lib.hid Kz
  have HBW := Lib.hid hbw
  clear Kz hbw
  go_wp2_with fail
  have K := ((HKz.out.set_ 0 (.int .i64 0)).set_ 1 (.int .i64 0)).set_ 2 (.slice none 0 0)
  refine ret_struct2 (g := w.heap.size + 1 + 1) (t := 51) (cs := #[.int .i64 0, .int .i64 0, .slice none 0 0]) rfl rfl ?_ Try.underlying51 rfl rfl rfl ?_
  · first | exact K | exact K.alloc _
  · exact ⟨rfl, by (repeat' (first | refine bset ?_ (by first | omega | (simp <;> omega)) _ | refine balloc ?_ _ | refine Below.drew ?_ | refine below_drewN ?_ _ | exact HBW.out | exact Below.refl _ _))⟩
set_option maxRecDepth 100000 in
set_option maxHeartbeats 3200000 in
theorem rover_no2 (IW IH IB ma mb mc md me mf : Int) (s : ByteArray) (x y : Int) (w : World) (H0 : Hid (∀ W', Calls Try.prog 15 #[.agg #[.int .i64 IW, .int .i64 IH, .int .i64 IB, .string s]] W' fun ed w' => ed = .returned (.bool true) ∧ Below W'.heap.size W' w')) (H1 : Hid (∀ W', Calls Try.prog 60 #[.agg #[.int .i64 ma, .int .i64 mb, .int .i64 mc, .int .i64 md, .int .i64 me, .int .i64 mf]] W' fun ed w' => ed = .returned (.bool false) ∧ Below W'.heap.size W' w')) :
    Calls Try.prog 39 #[.agg #[.int .i64 IW, .int .i64 IH, .int .i64 IB, .string s], .agg #[.int .i64 ma, .int .i64 mb, .int .i64 mc, .int .i64 md, .int .i64 me, .int .i64 mf], .int .i64 x, .int .i64 y] w fun e w' => e = .returned (.tuple #[.agg #[.int .i64 0, .int .i64 0, .slice none 0 0], .int .i64 1]) ∧ Below w.heap.size w w' := by
  go_enter Try.func39, Try.ntmps39
  go_wp2_with fail
  have hst0 : Below w.heap.size w (((w.alloc (.cells #[.int .i64 IW, .int .i64 IH, .int .i64 IB, .string s] 23)).alloc (.cells #[.int .i64 ma, .int .i64 mb, .int .i64 mc, .int .i64 md, .int .i64 me, .int .i64 mf] 25)).alloc (.cells #[.int .i64 0, .int .i64 0, .slice none 0 0] 51)) := by (repeat' (first | exact Below.refl _ _ | exact Below.refl _ _ | refine balloc ?_ _ | refine Below.drew ?_ | refine below_drewN ?_ _ | refine bset ?_ (by first | omega | (simp <;> omega)) _))
  refine (H0.out _).mono ?_
  rintro e_ w1 ⟨rfl, hb⟩
  have hst : Below w.heap.size w w1 := btrans hst0 hb
  have Ki := (((Blk.new w 23 #[.int .i64 IW, .int .i64 IH, .int .i64 IB, .string s]).alloc (.cells #[.int .i64 ma, .int .i64 mb, .int .i64 mc, .int .i64 md, .int .i64 me, .int .i64 mf] 25)).alloc (.cells #[.int .i64 0, .int .i64 0, .slice none 0 0] 51))
  have Km := ((Blk.new (w.alloc (.cells #[.int .i64 IW, .int .i64 IH, .int .i64 IB, .string s] 23)) 25 #[.int .i64 ma, .int .i64 mb, .int .i64 mc, .int .i64 md, .int .i64 me, .int .i64 mf]).alloc (.cells #[.int .i64 0, .int .i64 0, .slice none 0 0] 51))
  have hz_Km : (w.alloc (.cells #[.int .i64 IW, .int .i64 IH, .int .i64 IB, .string s] 23)).heap.size = w.heap.size + 1 := by simp
  rw [hz_Km] at Km
  clear hz_Km
  have Kz := (Blk.new ((w.alloc (.cells #[.int .i64 IW, .int .i64 IH, .int .i64 IB, .string s] 23)).alloc (.cells #[.int .i64 ma, .int .i64 mb, .int .i64 mc, .int .i64 md, .int .i64 me, .int .i64 mf] 25)) 51 #[.int .i64 0, .int .i64 0, .slice none 0 0])
  have hz_Kz : ((w.alloc (.cells #[.int .i64 IW, .int .i64 IH, .int .i64 IB, .string s] 23)).alloc (.cells #[.int .i64 ma, .int .i64 mb, .int .i64 mc, .int .i64 md, .int .i64 me, .int .i64 mf] 25)).heap.size = w.heap.size + 1 + 1 := by simp
  rw [hz_Kz] at Kz
  clear hz_Kz
  replace Ki := Ki.below hb Ki.lt
  replace Km := Km.below hb Km.lt
  replace Kz := Kz.below hb Kz.lt
  have hbw : Below w.heap.size w w1 := hst
  clear hst hst0 hb 
  have lKi := Ki.lt
  have cKi0 := Ki.cell 0
  have cKi1 := Ki.cell 1
  have cKi2 := Ki.cell 2
  have cKi3 := Ki.cell 3
  have lKm := Km.lt
  have cKm0 := Km.cell 0
  have cKm1 := Km.cell 1
  have cKm2 := Km.cell 2
  have cKm3 := Km.cell 3
  have cKm4 := Km.cell 4
  have cKm5 := Km.cell 5
  have lKz := Kz.lt
  have cKz0 := Kz.cell 0
  have cKz1 := Kz.cell 1
  have cKz2 := Kz.cell 2
  have fKz0 := Kz.frozen 0
  have fKz1 := Kz.frozen 1
  have fKz2 := Kz.frozen 2
  simp only [List.getElem?_toArray, List.getElem?_cons_succ, List.getElem?_cons_zero] at cKi0 cKi1 cKi2 cKi3 cKm0 cKm1 cKm2 cKm3 cKm4 cKm5 cKz0 cKz1 cKz2
  go_wp2_with fail
  have hst0 : Below w1.heap.size w1 w1 := by (repeat' (first | exact Below.refl _ _ | exact Below.refl _ _ | refine balloc ?_ _ | refine Below.drew ?_ | refine below_drewN ?_ _ | refine bset ?_ (by first | omega | (simp <;> omega)) _))
  refine (H1.out _).mono ?_
  rintro e_ w2 ⟨rfl, hb⟩
  have hst : Below w1.heap.size w1 w2 := btrans hst0 hb
  replace Ki := Ki.below hb Ki.lt
  replace Km := Km.below hb Km.lt
  replace Kz := Kz.below hb Kz.lt
  replace hbw : Below w.heap.size w w2 := btrans hbw hst
  clear hst hst0 hb lKi cKi0 cKi1 cKi2 cKi3 lKm cKm0 cKm1 cKm2 cKm3 cKm4 cKm5 lKz cKz0 cKz1 cKz2 fKz0 fKz1 fKz2
  have lKi := Ki.lt
  have cKi0 := Ki.cell 0
  have cKi1 := Ki.cell 1
  have cKi2 := Ki.cell 2
  have cKi3 := Ki.cell 3
  have lKm := Km.lt
  have cKm0 := Km.cell 0
  have cKm1 := Km.cell 1
  have cKm2 := Km.cell 2
  have cKm3 := Km.cell 3
  have cKm4 := Km.cell 4
  have cKm5 := Km.cell 5
  have lKz := Kz.lt
  have cKz0 := Kz.cell 0
  have cKz1 := Kz.cell 1
  have cKz2 := Kz.cell 2
  have fKz0 := Kz.frozen 0
  have fKz1 := Kz.frozen 1
  have fKz2 := Kz.frozen 2
  simp only [List.getElem?_toArray, List.getElem?_cons_succ, List.getElem?_cons_zero] at cKi0 cKi1 cKi2 cKi3 cKm0 cKm1 cKm2 cKm3 cKm4 cKm5 cKz0 cKz1 cKz2
  have HKz := Lib.hid Kz
  have HBW := Lib.hid hbw
  clear Kz hbw
  go_wp2_with fail
  have K := ((HKz.out.set_ 0 (.int .i64 0)).set_ 1 (.int .i64 0)).set_ 2 (.slice none 0 0)
  refine ret_struct2 (g := w.heap.size + 1 + 1) (t := 51) (cs := #[.int .i64 0, .int .i64 0, .slice none 0 0]) rfl rfl ?_ Try.underlying51 rfl rfl rfl ?_
  · first | exact K | exact K.alloc _
  · exact ⟨rfl, by (repeat' (first | refine bset ?_ (by first | omega | (simp <;> omega)) _ | refine balloc ?_ _ | refine Below.drew ?_ | refine below_drewN ?_ _ | exact HBW.out | exact Below.refl _ _))⟩
set_option maxRecDepth 100000 in
set_option maxHeartbeats 3200000 in
theorem rover_no3 (IW IH IB ma mb mc md me mf : Int) (s : ByteArray) (x y : Int) (w : World) (H0 : Hid (∀ W', Calls Try.prog 15 #[.agg #[.int .i64 IW, .int .i64 IH, .int .i64 IB, .string s]] W' fun ed w' => ed = .returned (.bool true) ∧ Below W'.heap.size W' w')) (H1 : Hid (∀ W', Calls Try.prog 60 #[.agg #[.int .i64 ma, .int .i64 mb, .int .i64 mc, .int .i64 md, .int .i64 me, .int .i64 mf]] W' fun ed w' => ed = .returned (.bool true) ∧ Below W'.heap.size W' w')) (H2 : Hid (∀ W', Calls Try.prog 75 #[.int .i64 x] W' fun ed w' => ed = .returned (.bool false) ∧ W' = w')) :
    Calls Try.prog 39 #[.agg #[.int .i64 IW, .int .i64 IH, .int .i64 IB, .string s], .agg #[.int .i64 ma, .int .i64 mb, .int .i64 mc, .int .i64 md, .int .i64 me, .int .i64 mf], .int .i64 x, .int .i64 y] w fun e w' => e = .returned (.tuple #[.agg #[.int .i64 0, .int .i64 0, .slice none 0 0], .int .i64 1]) ∧ Below w.heap.size w w' := by
  go_enter Try.func39, Try.ntmps39
  go_wp2_with fail
  have hst0 : Below w.heap.size w (((w.alloc (.cells #[.int .i64 IW, .int .i64 IH, .int .i64 IB, .string s] 23)).alloc (.cells #[.int .i64 ma, .int .i64 mb, .int .i64 mc, .int .i64 md, .int .i64 me, .int .i64 mf] 25)).alloc (.cells #[.int .i64 0, .int .i64 0, .slice none 0 0] 51)) := by (repeat' (first | exact Below.refl _ _ | exact Below.refl _ _ | refine balloc ?_ _ | refine Below.drew ?_ | refine below_drewN ?_ _ | refine bset ?_ (by first | omega | (simp <;> omega)) _))
  refine (H0.out _).mono ?_
  rintro e_ w1 ⟨rfl, hb⟩
  have hst : Below w.heap.size w w1 := btrans hst0 hb
  have Ki := (((Blk.new w 23 #[.int .i64 IW, .int .i64 IH, .int .i64 IB, .string s]).alloc (.cells #[.int .i64 ma, .int .i64 mb, .int .i64 mc, .int .i64 md, .int .i64 me, .int .i64 mf] 25)).alloc (.cells #[.int .i64 0, .int .i64 0, .slice none 0 0] 51))
  have Km := ((Blk.new (w.alloc (.cells #[.int .i64 IW, .int .i64 IH, .int .i64 IB, .string s] 23)) 25 #[.int .i64 ma, .int .i64 mb, .int .i64 mc, .int .i64 md, .int .i64 me, .int .i64 mf]).alloc (.cells #[.int .i64 0, .int .i64 0, .slice none 0 0] 51))
  have hz_Km : (w.alloc (.cells #[.int .i64 IW, .int .i64 IH, .int .i64 IB, .string s] 23)).heap.size = w.heap.size + 1 := by simp
  rw [hz_Km] at Km
  clear hz_Km
  have Kz := (Blk.new ((w.alloc (.cells #[.int .i64 IW, .int .i64 IH, .int .i64 IB, .string s] 23)).alloc (.cells #[.int .i64 ma, .int .i64 mb, .int .i64 mc, .int .i64 md, .int .i64 me, .int .i64 mf] 25)) 51 #[.int .i64 0, .int .i64 0, .slice none 0 0])
  have hz_Kz : ((w.alloc (.cells #[.int .i64 IW, .int .i64 IH, .int .i64 IB, .string s] 23)).alloc (.cells #[.int .i64 ma, .int .i64 mb, .int .i64 mc, .int .i64 md, .int .i64 me, .int .i64 mf] 25)).heap.size = w.heap.size + 1 + 1 := by simp
  rw [hz_Kz] at Kz
  clear hz_Kz
  replace Ki := Ki.below hb Ki.lt
  replace Km := Km.below hb Km.lt
  replace Kz := Kz.below hb Kz.lt
  have hbw : Below w.heap.size w w1 := hst
  clear hst hst0 hb 
  have lKi := Ki.lt
  have cKi0 := Ki.cell 0
  have cKi1 := Ki.cell 1
  have cKi2 := Ki.cell 2
  have cKi3 := Ki.cell 3
  have lKm := Km.lt
  have cKm0 := Km.cell 0
  have cKm1 := Km.cell 1
  have cKm2 := Km.cell 2
  have cKm3 := Km.cell 3
  have cKm4 := Km.cell 4
  have cKm5 := Km.cell 5
  have lKz := Kz.lt
  have cKz0 := Kz.cell 0
  have cKz1 := Kz.cell 1
  have cKz2 := Kz.cell 2
  have fKz0 := Kz.frozen 0
  have fKz1 := Kz.frozen 1
  have fKz2 := Kz.frozen 2
  simp only [List.getElem?_toArray, List.getElem?_cons_succ, List.getElem?_cons_zero] at cKi0 cKi1 cKi2 cKi3 cKm0 cKm1 cKm2 cKm3 cKm4 cKm5 cKz0 cKz1 cKz2
  go_wp2_with fail
  have hst0 : Below w1.heap.size w1 w1 := by (repeat' (first | exact Below.refl _ _ | exact Below.refl _ _ | refine balloc ?_ _ | refine Below.drew ?_ | refine below_drewN ?_ _ | refine bset ?_ (by first | omega | (simp <;> omega)) _))
  refine (H1.out _).mono ?_
  rintro e_ w2 ⟨rfl, hb⟩
  have hst : Below w1.heap.size w1 w2 := btrans hst0 hb
  replace Ki := Ki.below hb Ki.lt
  replace Km := Km.below hb Km.lt
  replace Kz := Kz.below hb Kz.lt
  replace hbw : Below w.heap.size w w2 := btrans hbw hst
  clear hst hst0 hb lKi cKi0 cKi1 cKi2 cKi3 lKm cKm0 cKm1 cKm2 cKm3 cKm4 cKm5 lKz cKz0 cKz1 cKz2 fKz0 fKz1 fKz2
  have lKi := Ki.lt
  have cKi0 := Ki.cell 0
  have cKi1 := Ki.cell 1
  have cKi2 := Ki.cell 2
  have cKi3 := Ki.cell 3
  have lKm := Km.lt
  have cKm0 := Km.cell 0
  have cKm1 := Km.cell 1
  have cKm2 := Km.cell 2
  have cKm3 := Km.cell 3
  have cKm4 := Km.cell 4
  have cKm5 := Km.cell 5
  have lKz := Kz.lt
  have cKz0 := Kz.cell 0
  have cKz1 := Kz.cell 1
  have cKz2 := Kz.cell 2
  have fKz0 := Kz.frozen 0
  have fKz1 := Kz.frozen 1
  have fKz2 := Kz.frozen 2
  simp only [List.getElem?_toArray, List.getElem?_cons_succ, List.getElem?_cons_zero] at cKi0 cKi1 cKi2 cKi3 cKm0 cKm1 cKm2 cKm3 cKm4 cKm5 cKz0 cKz1 cKz2
  go_wp2_with fail
  refine (H2.out _).mono ?_
  rintro e_ w_ ⟨rfl, rfl⟩
  have HKz := Lib.hid Kz
  have HBW := Lib.hid hbw
  clear Kz hbw
  go_wp2_with fail
  have K := ((HKz.out.set_ 0 (.int .i64 0)).set_ 1 (.int .i64 0)).set_ 2 (.slice none 0 0)
  refine ret_struct2 (g := w.heap.size + 1 + 1) (t := 51) (cs := #[.int .i64 0, .int .i64 0, .slice none 0 0]) rfl rfl ?_ Try.underlying51 rfl rfl rfl ?_
  · first | exact K | exact K.alloc _
  · exact ⟨rfl, by (repeat' (first | refine bset ?_ (by first | omega | (simp <;> omega)) _ | refine balloc ?_ _ | refine Below.drew ?_ | refine below_drewN ?_ _ | exact HBW.out | exact Below.refl _ _))⟩
set_option maxRecDepth 100000 in
set_option maxHeartbeats 3200000 in
theorem rover_no4 (IW IH IB ma mb mc md me mf : Int) (s : ByteArray) (x y : Int) (w : World) (H0 : Hid (∀ W', Calls Try.prog 15 #[.agg #[.int .i64 IW, .int .i64 IH, .int .i64 IB, .string s]] W' fun ed w' => ed = .returned (.bool true) ∧ Below W'.heap.size W' w')) (H1 : Hid (∀ W', Calls Try.prog 60 #[.agg #[.int .i64 ma, .int .i64 mb, .int .i64 mc, .int .i64 md, .int .i64 me, .int .i64 mf]] W' fun ed w' => ed = .returned (.bool true) ∧ Below W'.heap.size W' w')) (H2 : Hid (∀ W', Calls Try.prog 75 #[.int .i64 x] W' fun ed w' => ed = .returned (.bool true) ∧ W' = w')) (H3 : Hid (∀ W', Calls Try.prog 75 #[.int .i64 y] W' fun ed w' => ed = .returned (.bool false) ∧ W' = w')) :
    Calls Try.prog 39 #[.agg #[.int .i64 IW, .int .i64 IH, .int .i64 IB, .string s], .agg #[.int .i64 ma, .int .i64 mb, .int .i64 mc, .int .i64 md, .int .i64 me, .int .i64 mf], .int .i64 x, .int .i64 y] w fun e w' => e = .returned (.tuple #[.agg #[.int .i64 0, .int .i64 0, .slice none 0 0], .int .i64 1]) ∧ Below w.heap.size w w' := by
  go_enter Try.func39, Try.ntmps39
  go_wp2_with fail
  have hst0 : Below w.heap.size w (((w.alloc (.cells #[.int .i64 IW, .int .i64 IH, .int .i64 IB, .string s] 23)).alloc (.cells #[.int .i64 ma, .int .i64 mb, .int .i64 mc, .int .i64 md, .int .i64 me, .int .i64 mf] 25)).alloc (.cells #[.int .i64 0, .int .i64 0, .slice none 0 0] 51)) := by (repeat' (first | exact Below.refl _ _ | exact Below.refl _ _ | refine balloc ?_ _ | refine Below.drew ?_ | refine below_drewN ?_ _ | refine bset ?_ (by first | omega | (simp <;> omega)) _))
  refine (H0.out _).mono ?_
  rintro e_ w1 ⟨rfl, hb⟩
  have hst : Below w.heap.size w w1 := btrans hst0 hb
  have Ki := (((Blk.new w 23 #[.int .i64 IW, .int .i64 IH, .int .i64 IB, .string s]).alloc (.cells #[.int .i64 ma, .int .i64 mb, .int .i64 mc, .int .i64 md, .int .i64 me, .int .i64 mf] 25)).alloc (.cells #[.int .i64 0, .int .i64 0, .slice none 0 0] 51))
  have Km := ((Blk.new (w.alloc (.cells #[.int .i64 IW, .int .i64 IH, .int .i64 IB, .string s] 23)) 25 #[.int .i64 ma, .int .i64 mb, .int .i64 mc, .int .i64 md, .int .i64 me, .int .i64 mf]).alloc (.cells #[.int .i64 0, .int .i64 0, .slice none 0 0] 51))
  have hz_Km : (w.alloc (.cells #[.int .i64 IW, .int .i64 IH, .int .i64 IB, .string s] 23)).heap.size = w.heap.size + 1 := by simp
  rw [hz_Km] at Km
  clear hz_Km
  have Kz := (Blk.new ((w.alloc (.cells #[.int .i64 IW, .int .i64 IH, .int .i64 IB, .string s] 23)).alloc (.cells #[.int .i64 ma, .int .i64 mb, .int .i64 mc, .int .i64 md, .int .i64 me, .int .i64 mf] 25)) 51 #[.int .i64 0, .int .i64 0, .slice none 0 0])
  have hz_Kz : ((w.alloc (.cells #[.int .i64 IW, .int .i64 IH, .int .i64 IB, .string s] 23)).alloc (.cells #[.int .i64 ma, .int .i64 mb, .int .i64 mc, .int .i64 md, .int .i64 me, .int .i64 mf] 25)).heap.size = w.heap.size + 1 + 1 := by simp
  rw [hz_Kz] at Kz
  clear hz_Kz
  replace Ki := Ki.below hb Ki.lt
  replace Km := Km.below hb Km.lt
  replace Kz := Kz.below hb Kz.lt
  have hbw : Below w.heap.size w w1 := hst
  clear hst hst0 hb 
  have lKi := Ki.lt
  have cKi0 := Ki.cell 0
  have cKi1 := Ki.cell 1
  have cKi2 := Ki.cell 2
  have cKi3 := Ki.cell 3
  have lKm := Km.lt
  have cKm0 := Km.cell 0
  have cKm1 := Km.cell 1
  have cKm2 := Km.cell 2
  have cKm3 := Km.cell 3
  have cKm4 := Km.cell 4
  have cKm5 := Km.cell 5
  have lKz := Kz.lt
  have cKz0 := Kz.cell 0
  have cKz1 := Kz.cell 1
  have cKz2 := Kz.cell 2
  have fKz0 := Kz.frozen 0
  have fKz1 := Kz.frozen 1
  have fKz2 := Kz.frozen 2
  simp only [List.getElem?_toArray, List.getElem?_cons_succ, List.getElem?_cons_zero] at cKi0 cKi1 cKi2 cKi3 cKm0 cKm1 cKm2 cKm3 cKm4 cKm5 cKz0 cKz1 cKz2
  go_wp2_with fail
  have hst0 : Below w1.heap.size w1 w1 := by (repeat' (first | exact Below.refl _ _ | exact Below.refl _ _ | refine balloc ?_ _ | refine Below.drew ?_ | refine below_drewN ?_ _ | refine bset ?_ (by first | omega | (simp <;> omega)) _))
  refine (H1.out _).mono ?_
  rintro e_ w2 ⟨rfl, hb⟩
  have hst : Below w1.heap.size w1 w2 := btrans hst0 hb
  replace Ki := Ki.below hb Ki.lt
  replace Km := Km.below hb Km.lt
  replace Kz := Kz.below hb Kz.lt
  replace hbw : Below w.heap.size w w2 := btrans hbw hst
  clear hst hst0 hb lKi cKi0 cKi1 cKi2 cKi3 lKm cKm0 cKm1 cKm2 cKm3 cKm4 cKm5 lKz cKz0 cKz1 cKz2 fKz0 fKz1 fKz2
  have lKi := Ki.lt
  have cKi0 := Ki.cell 0
  have cKi1 := Ki.cell 1
  have cKi2 := Ki.cell 2
  have cKi3 := Ki.cell 3
  have lKm := Km.lt
  have cKm0 := Km.cell 0
  have cKm1 := Km.cell 1
  have cKm2 := Km.cell 2
  have cKm3 := Km.cell 3
  have cKm4 := Km.cell 4
  have cKm5 := Km.cell 5
  have lKz := Kz.lt
  have cKz0 := Kz.cell 0
  have cKz1 := Kz.cell 1
  have cKz2 := Kz.cell 2
  have fKz0 := Kz.frozen 0
  have fKz1 := Kz.frozen 1
  have fKz2 := Kz.frozen 2
  simp only [List.getElem?_toArray, List.getElem?_cons_succ, List.getElem?_cons_zero] at cKi0 cKi1 cKi2 cKi3 cKm0 cKm1 cKm2 cKm3 cKm4 cKm5 cKz0 cKz1 cKz2
  go_wp2_with fail
  refine (H2.out _).mono ?_
  rintro e_ w_ ⟨rfl, rfl⟩
  go_wp2_with fail
  refine (H3.out _).mono ?_
  rintro e_ w_ ⟨rfl, rfl⟩
  have HKz := Lib.hid Kz
  have HBW := Lib.hid hbw
  clear Kz hbw
  go_wp2_with fail
  have K := ((HKz.out.set_ 0 (.int .i64 0)).set_ 1 (.int .i64 0)).set_ 2 (.slice none 0 0)
  refine ret_struct2 (g := w.heap.size + 1 + 1) (t := 51) (cs := #[.int .i64 0, .int .i64 0, .slice none 0 0]) rfl rfl ?_ Try.underlying51 rfl rfl rfl ?_
  · first | exact K | exact K.alloc _
  · exact ⟨rfl, by (repeat' (first | refine bset ?_ (by first | omega | (simp <;> omega)) _ | refine balloc ?_ _ | refine Below.drew ?_ | refine below_drewN ?_ _ | exact HBW.out | exact Below.refl _ _))⟩
set_option maxRecDepth 100000 in
set_option maxHeartbeats 3200000 in
theorem paint_no1 (IW IH IB ma mb mc md me mf : Int) (s : ByteArray) (t : Int) (pw ph rw_ rh : Int) (n c m d : Nat) (A D : Option Addr) (L : Nat → List (Int × Int)) (w : World) (hr : rg.Rows w D m d L) (HL : Hid (∀ W', Calls Try.prog 58 #[.agg #[.int .i64 IW, .int .i64 IH, .int .i64 IB, .string s], .agg #[.int .i64 ma, .int .i64 mb, .int .i64 mc, .int .i64 md, .int .i64 me, .int .i64 mf]] W' fun ed w' => ed = .returned (.tuple #[.agg #[.int .i64 0, .int .i64 0, .int .i64 0, .string ⟨#[]⟩, .int .i64 0, .int .i64 0, .int .i64 0, .int .i64 0, .int .i64 0, .int .i64 0, .int .i64 0], .bool false]) ∧ Below W'.heap.size W' w'))  :
    Calls Try.prog 31 #[.agg #[.int .i64 pw, .int .i64 ph, .slice A n c], .agg #[.int .i64 IW, .int .i64 IH, .int .i64 IB, .string s], .agg #[.int .i64 ma, .int .i64 mb, .int .i64 mc, .int .i64 md, .int .i64 me, .int .i64 mf], .agg #[.int .i64 rw_, .int .i64 rh, .slice D m d]] w fun e w' => e = .returned (.tuple #[.agg #[.int .i64 0, .int .i64 0, .slice none 0 0], .int .i64 1]) ∧ Below w.heap.size w w' := by
  have HR := Lib.hid hr
  clear hr
  go_enter Try.func31, Try.ntmps31
  go_wp2_with fail
  have hst0 : Below w.heap.size w (((((w.alloc (.cells #[.int .i64 pw, .int .i64 ph, .slice A n c] 46)).alloc (.cells #[.int .i64 IW, .int .i64 IH, .int .i64 IB, .string s] 23)).alloc (.cells #[.int .i64 ma, .int .i64 mb, .int .i64 mc, .int .i64 md, .int .i64 me, .int .i64 mf] 25)).alloc (.cells #[.int .i64 rw_, .int .i64 rh, .slice D m d] 51)).alloc (.cells #[.int .i64 0, .int .i64 0, .slice none 0 0] 46)) := by (repeat' (first | exact Below.refl _ _ | exact Below.refl _ _ | refine balloc ?_ _ | refine Below.drew ?_ | refine below_drewN ?_ _ | refine bset ?_ (by first | omega | (simp <;> omega)) _))
  refine (HL.out _).mono ?_
  rintro e_ w1 ⟨rfl, hb⟩
  have hst : Below w.heap.size w w1 := btrans hst0 hb
  have Kp := (((((Blk.new w 46 #[.int .i64 pw, .int .i64 ph, .slice A n c]).alloc (.cells #[.int .i64 IW, .int .i64 IH, .int .i64 IB, .string s] 23)).alloc (.cells #[.int .i64 ma, .int .i64 mb, .int .i64 mc, .int .i64 md, .int .i64 me, .int .i64 mf] 25)).alloc (.cells #[.int .i64 rw_, .int .i64 rh, .slice D m d] 51)).alloc (.cells #[.int .i64 0, .int .i64 0, .slice none 0 0] 46))
  have Ki := ((((Blk.new (w.alloc (.cells #[.int .i64 pw, .int .i64 ph, .slice A n c] 46)) 23 #[.int .i64 IW, .int .i64 IH, .int .i64 IB, .string s]).alloc (.cells #[.int .i64 ma, .int .i64 mb, .int .i64 mc, .int .i64 md, .int .i64 me, .int .i64 mf] 25)).alloc (.cells #[.int .i64 rw_, .int .i64 rh, .slice D m d] 51)).alloc (.cells #[.int .i64 0, .int .i64 0, .slice none 0 0] 46))
  have hz_Ki : (w.alloc (.cells #[.int .i64 pw, .int .i64 ph, .slice A n c] 46)).heap.size = w.heap.size + 1 := by simp
  rw [hz_Ki] at Ki
  clear hz_Ki
  have Km := (((Blk.new ((w.alloc (.cells #[.int .i64 pw, .int .i64 ph, .slice A n c] 46)).alloc (.cells #[.int .i64 IW, .int .i64 IH, .int .i64 IB, .string s] 23)) 25 #[.int .i64 ma, .int .i64 mb, .int .i64 mc, .int .i64 md, .int .i64 me, .int .i64 mf]).alloc (.cells #[.int .i64 rw_, .int .i64 rh, .slice D m d] 51)).alloc (.cells #[.int .i64 0, .int .i64 0, .slice none 0 0] 46))
  have hz_Km : ((w.alloc (.cells #[.int .i64 pw, .int .i64 ph, .slice A n c] 46)).alloc (.cells #[.int .i64 IW, .int .i64 IH, .int .i64 IB, .string s] 23)).heap.size = w.heap.size + 1 + 1 := by simp
  rw [hz_Km] at Km
  clear hz_Km
  have Kr := ((Blk.new (((w.alloc (.cells #[.int .i64 pw, .int .i64 ph, .slice A n c] 46)).alloc (.cells #[.int .i64 IW, .int .i64 IH, .int .i64 IB, .string s] 23)).alloc (.cells #[.int .i64 ma, .int .i64 mb, .int .i64 mc, .int .i64 md, .int .i64 me, .int .i64 mf] 25)) 51 #[.int .i64 rw_, .int .i64 rh, .slice D m d]).alloc (.cells #[.int .i64 0, .int .i64 0, .slice none 0 0] 46))
  have hz_Kr : (((w.alloc (.cells #[.int .i64 pw, .int .i64 ph, .slice A n c] 46)).alloc (.cells #[.int .i64 IW, .int .i64 IH, .int .i64 IB, .string s] 23)).alloc (.cells #[.int .i64 ma, .int .i64 mb, .int .i64 mc, .int .i64 md, .int .i64 me, .int .i64 mf] 25)).heap.size = w.heap.size + 1 + 1 + 1 := by simp
  rw [hz_Kr] at Kr
  clear hz_Kr
  have Kz := (Blk.new ((((w.alloc (.cells #[.int .i64 pw, .int .i64 ph, .slice A n c] 46)).alloc (.cells #[.int .i64 IW, .int .i64 IH, .int .i64 IB, .string s] 23)).alloc (.cells #[.int .i64 ma, .int .i64 mb, .int .i64 mc, .int .i64 md, .int .i64 me, .int .i64 mf] 25)).alloc (.cells #[.int .i64 rw_, .int .i64 rh, .slice D m d] 51)) 46 #[.int .i64 0, .int .i64 0, .slice none 0 0])
  have hz_Kz : ((((w.alloc (.cells #[.int .i64 pw, .int .i64 ph, .slice A n c] 46)).alloc (.cells #[.int .i64 IW, .int .i64 IH, .int .i64 IB, .string s] 23)).alloc (.cells #[.int .i64 ma, .int .i64 mb, .int .i64 mc, .int .i64 md, .int .i64 me, .int .i64 mf] 25)).alloc (.cells #[.int .i64 rw_, .int .i64 rh, .slice D m d] 51)).heap.size = w.heap.size + 1 + 1 + 1 + 1 := by simp
  rw [hz_Kz] at Kz
  clear hz_Kz
  replace Kp := Kp.below hb Kp.lt
  replace Ki := Ki.below hb Ki.lt
  replace Km := Km.below hb Km.lt
  replace Kr := Kr.below hb Kr.lt
  replace Kz := Kz.below hb Kz.lt
  have hbw : Below w.heap.size w w1 := hst
  replace HR := Lib.hid (HR.out.below hst)
  clear hst hst0 hb 
  have lKp := Kp.lt
  have cKp0 := Kp.cell 0
  have cKp1 := Kp.cell 1
  have cKp2 := Kp.cell 2
  have lKi := Ki.lt
  have cKi0 := Ki.cell 0
  have cKi1 := Ki.cell 1
  have cKi2 := Ki.cell 2
  have cKi3 := Ki.cell 3
  have lKm := Km.lt
  have cKm0 := Km.cell 0
  have cKm1 := Km.cell 1
  have cKm2 := Km.cell 2
  have cKm3 := Km.cell 3
  have cKm4 := Km.cell 4
  have cKm5 := Km.cell 5
  have lKr := Kr.lt
  have cKr0 := Kr.cell 0
  have cKr1 := Kr.cell 1
  have cKr2 := Kr.cell 2
  have lKz := Kz.lt
  have cKz0 := Kz.cell 0
  have cKz1 := Kz.cell 1
  have cKz2 := Kz.cell 2
  have fKz0 := Kz.frozen 0
  have fKz1 := Kz.frozen 1
  have fKz2 := Kz.frozen 2
  simp only [List.getElem?_toArray, List.getElem?_cons_succ, List.getElem?_cons_zero] at cKp0 cKp1 cKp2 cKi0 cKi1 cKi2 cKi3 cKm0 cKm1 cKm2 cKm3 cKm4 cKm5 cKr0 cKr1 cKr2 cKz0 cKz1 cKz2
  have lz := lKz
  have HKz := Lib.hid Kz
  have HBW := Lib.hid hbw
  clear Kz hbw
  go_wp2_with fail
  have K := ((HKz.out.set_ 0 (.int .i64 0)).set_ 1 (.int .i64 0)).set_ 2 (.slice none 0 0)
  refine ret_struct2 (g := w.heap.size + 1 + 1 + 1 + 1) (t := 46) (cs := #[.int .i64 0, .int .i64 0, .slice none 0 0]) rfl rfl ?_ Try.underlying46 rfl rfl rfl ?_
  · first | exact K | exact K.alloc _
  · exact ⟨rfl, by (repeat' (first | refine bset ?_ (by first | omega | (simp <;> omega)) _ | refine balloc ?_ _ | refine Below.drew ?_ | refine below_drewN ?_ _ | exact HBW.out | exact Below.refl _ _))⟩
set_option maxRecDepth 100000 in
set_option maxHeartbeats 3200000 in
theorem paint_no2 (IW IH IB ma mb mc md me mf : Int) (s : ByteArray) (t : Int) (pw ph rw_ rh : Int) (n c m d : Nat) (A D : Option Addr) (L : Nat → List (Int × Int)) (w : World) (hr : rg.Rows w D m d L) (HL : Hid (∀ W', Calls Try.prog 58 #[.agg #[.int .i64 IW, .int .i64 IH, .int .i64 IB, .string s], .agg #[.int .i64 ma, .int .i64 mb, .int .i64 mc, .int .i64 md, .int .i64 me, .int .i64 mf]] W' fun ed w' => ed = .returned (.tuple #[.agg #[.int .i64 IW, .int .i64 IH, .int .i64 IB, .string s, .int .i64 ma, .int .i64 mb, .int .i64 mc, .int .i64 md, .int .i64 me, .int .i64 mf, .int .i64 t], .bool true]) ∧ Below W'.heap.size W' w')) (HM1 : Hid (∀ W', Calls Try.prog 71 #[.agg #[.int .i64 pw, .int .i64 ph, .slice A n c]] W' fun ed w' => ed = .returned (.bool false) ∧ Below W'.heap.size W' w')) :
    Calls Try.prog 31 #[.agg #[.int .i64 pw, .int .i64 ph, .slice A n c], .agg #[.int .i64 IW, .int .i64 IH, .int .i64 IB, .string s], .agg #[.int .i64 ma, .int .i64 mb, .int .i64 mc, .int .i64 md, .int .i64 me, .int .i64 mf], .agg #[.int .i64 rw_, .int .i64 rh, .slice D m d]] w fun e w' => e = .returned (.tuple #[.agg #[.int .i64 0, .int .i64 0, .slice none 0 0], .int .i64 1]) ∧ Below w.heap.size w w' := by
  have HR := Lib.hid hr
  clear hr
  go_enter Try.func31, Try.ntmps31
  go_wp2_with fail
  have hst0 : Below w.heap.size w (((((w.alloc (.cells #[.int .i64 pw, .int .i64 ph, .slice A n c] 46)).alloc (.cells #[.int .i64 IW, .int .i64 IH, .int .i64 IB, .string s] 23)).alloc (.cells #[.int .i64 ma, .int .i64 mb, .int .i64 mc, .int .i64 md, .int .i64 me, .int .i64 mf] 25)).alloc (.cells #[.int .i64 rw_, .int .i64 rh, .slice D m d] 51)).alloc (.cells #[.int .i64 0, .int .i64 0, .slice none 0 0] 46)) := by (repeat' (first | exact Below.refl _ _ | exact Below.refl _ _ | refine balloc ?_ _ | refine Below.drew ?_ | refine below_drewN ?_ _ | refine bset ?_ (by first | omega | (simp <;> omega)) _))
  refine (HL.out _).mono ?_
  rintro e_ w1 ⟨rfl, hb⟩
  have hst : Below w.heap.size w w1 := btrans hst0 hb
  have Kp := (((((Blk.new w 46 #[.int .i64 pw, .int .i64 ph, .slice A n c]).alloc (.cells #[.int .i64 IW, .int .i64 IH, .int .i64 IB, .string s] 23)).alloc (.cells #[.int .i64 ma, .int .i64 mb, .int .i64 mc, .int .i64 md, .int .i64 me, .int .i64 mf] 25)).alloc (.cells #[.int .i64 rw_, .int .i64 rh, .slice D m d] 51)).alloc (.cells #[.int .i64 0, .int .i64 0, .slice none 0 0] 46))
  have Ki := ((((Blk.new (w.alloc (.cells #[.int .i64 pw, .int .i64 ph, .slice A n c] 46)) 23 #[.int .i64 IW, .int .i64 IH, .int .i64 IB, .string s]).alloc (.cells #[.int .i64 ma, .int .i64 mb, .int .i64 mc, .int .i64 md, .int .i64 me, .int .i64 mf] 25)).alloc (.cells #[.int .i64 rw_, .int .i64 rh, .slice D m d] 51)).alloc (.cells #[.int .i64 0, .int .i64 0, .slice none 0 0] 46))
  have hz_Ki : (w.alloc (.cells #[.int .i64 pw, .int .i64 ph, .slice A n c] 46)).heap.size = w.heap.size + 1 := by simp
  rw [hz_Ki] at Ki
  clear hz_Ki
  have Km := (((Blk.new ((w.alloc (.cells #[.int .i64 pw, .int .i64 ph, .slice A n c] 46)).alloc (.cells #[.int .i64 IW, .int .i64 IH, .int .i64 IB, .string s] 23)) 25 #[.int .i64 ma, .int .i64 mb, .int .i64 mc, .int .i64 md, .int .i64 me, .int .i64 mf]).alloc (.cells #[.int .i64 rw_, .int .i64 rh, .slice D m d] 51)).alloc (.cells #[.int .i64 0, .int .i64 0, .slice none 0 0] 46))
  have hz_Km : ((w.alloc (.cells #[.int .i64 pw, .int .i64 ph, .slice A n c] 46)).alloc (.cells #[.int .i64 IW, .int .i64 IH, .int .i64 IB, .string s] 23)).heap.size = w.heap.size + 1 + 1 := by simp
  rw [hz_Km] at Km
  clear hz_Km
  have Kr := ((Blk.new (((w.alloc (.cells #[.int .i64 pw, .int .i64 ph, .slice A n c] 46)).alloc (.cells #[.int .i64 IW, .int .i64 IH, .int .i64 IB, .string s] 23)).alloc (.cells #[.int .i64 ma, .int .i64 mb, .int .i64 mc, .int .i64 md, .int .i64 me, .int .i64 mf] 25)) 51 #[.int .i64 rw_, .int .i64 rh, .slice D m d]).alloc (.cells #[.int .i64 0, .int .i64 0, .slice none 0 0] 46))
  have hz_Kr : (((w.alloc (.cells #[.int .i64 pw, .int .i64 ph, .slice A n c] 46)).alloc (.cells #[.int .i64 IW, .int .i64 IH, .int .i64 IB, .string s] 23)).alloc (.cells #[.int .i64 ma, .int .i64 mb, .int .i64 mc, .int .i64 md, .int .i64 me, .int .i64 mf] 25)).heap.size = w.heap.size + 1 + 1 + 1 := by simp
  rw [hz_Kr] at Kr
  clear hz_Kr
  have Kz := (Blk.new ((((w.alloc (.cells #[.int .i64 pw, .int .i64 ph, .slice A n c] 46)).alloc (.cells #[.int .i64 IW, .int .i64 IH, .int .i64 IB, .string s] 23)).alloc (.cells #[.int .i64 ma, .int .i64 mb, .int .i64 mc, .int .i64 md, .int .i64 me, .int .i64 mf] 25)).alloc (.cells #[.int .i64 rw_, .int .i64 rh, .slice D m d] 51)) 46 #[.int .i64 0, .int .i64 0, .slice none 0 0])
  have hz_Kz : ((((w.alloc (.cells #[.int .i64 pw, .int .i64 ph, .slice A n c] 46)).alloc (.cells #[.int .i64 IW, .int .i64 IH, .int .i64 IB, .string s] 23)).alloc (.cells #[.int .i64 ma, .int .i64 mb, .int .i64 mc, .int .i64 md, .int .i64 me, .int .i64 mf] 25)).alloc (.cells #[.int .i64 rw_, .int .i64 rh, .slice D m d] 51)).heap.size = w.heap.size + 1 + 1 + 1 + 1 := by simp
  rw [hz_Kz] at Kz
  clear hz_Kz
  replace Kp := Kp.below hb Kp.lt
  replace Ki := Ki.below hb Ki.lt
  replace Km := Km.below hb Km.lt
  replace Kr := Kr.below hb Kr.lt
  replace Kz := Kz.below hb Kz.lt
  have hbw : Below w.heap.size w w1 := hst
  replace HR := Lib.hid (HR.out.below hst)
  clear hst hst0 hb 
  have lKp := Kp.lt
  have cKp0 := Kp.cell 0
  have cKp1 := Kp.cell 1
  have cKp2 := Kp.cell 2
  have lKi := Ki.lt
  have cKi0 := Ki.cell 0
  have cKi1 := Ki.cell 1
  have cKi2 := Ki.cell 2
  have cKi3 := Ki.cell 3
  have lKm := Km.lt
  have cKm0 := Km.cell 0
  have cKm1 := Km.cell 1
  have cKm2 := Km.cell 2
  have cKm3 := Km.cell 3
  have cKm4 := Km.cell 4
  have cKm5 := Km.cell 5
  have lKr := Kr.lt
  have cKr0 := Kr.cell 0
  have cKr1 := Kr.cell 1
  have cKr2 := Kr.cell 2
  have lKz := Kz.lt
  have cKz0 := Kz.cell 0
  have cKz1 := Kz.cell 1
  have cKz2 := Kz.cell 2
  have fKz0 := Kz.frozen 0
  have fKz1 := Kz.frozen 1
  have fKz2 := Kz.frozen 2
  simp only [List.getElem?_toArray, List.getElem?_cons_succ, List.getElem?_cons_zero] at cKp0 cKp1 cKp2 cKi0 cKi1 cKi2 cKi3 cKm0 cKm1 cKm2 cKm3 cKm4 cKm5 cKr0 cKr1 cKr2 cKz0 cKz1 cKz2
  have lz := lKz
  go_wp2_with fail
  have hst0 : Below w1.heap.size w1 (w1.alloc (.cells #[.int .i64 IW, .int .i64 IH, .int .i64 IB, .string s, .int .i64 ma, .int .i64 mb, .int .i64 mc, .int .i64 md, .int .i64 me, .int .i64 mf, .int .i64 t] 92)) := by (repeat' (first | exact Below.refl _ _ | exact Below.refl _ _ | refine balloc ?_ _ | refine Below.drew ?_ | refine below_drewN ?_ _ | refine bset ?_ (by first | omega | (simp <;> omega)) _))
  refine (HM1.out _).mono ?_
  rintro e_ w2 ⟨rfl, hb⟩
  have hst : Below w1.heap.size w1 w2 := btrans hst0 hb
  replace Kp := (Kp.alloc (.cells #[.int .i64 IW, .int .i64 IH, .int .i64 IB, .string s, .int .i64 ma, .int .i64 mb, .int .i64 mc, .int .i64 md, .int .i64 me, .int .i64 mf, .int .i64 t] 92))
  replace Ki := (Ki.alloc (.cells #[.int .i64 IW, .int .i64 IH, .int .i64 IB, .string s, .int .i64 ma, .int .i64 mb, .int .i64 mc, .int .i64 md, .int .i64 me, .int .i64 mf, .int .i64 t] 92))
  replace Km := (Km.alloc (.cells #[.int .i64 IW, .int .i64 IH, .int .i64 IB, .string s, .int .i64 ma, .int .i64 mb, .int .i64 mc, .int .i64 md, .int .i64 me, .int .i64 mf, .int .i64 t] 92))
  replace Kr := (Kr.alloc (.cells #[.int .i64 IW, .int .i64 IH, .int .i64 IB, .string s, .int .i64 ma, .int .i64 mb, .int .i64 mc, .int .i64 md, .int .i64 me, .int .i64 mf, .int .i64 t] 92))
  replace Kz := (Kz.alloc (.cells #[.int .i64 IW, .int .i64 IH, .int .i64 IB, .string s, .int .i64 ma, .int .i64 mb, .int .i64 mc, .int .i64 md, .int .i64 me, .int .i64 mf, .int .i64 t] 92))
  have Kv := (Blk.new w1 92 #[.int .i64 IW, .int .i64 IH, .int .i64 IB, .string s, .int .i64 ma, .int .i64 mb, .int .i64 mc, .int .i64 md, .int .i64 me, .int .i64 mf, .int .i64 t])
  replace Kp := Kp.below hb Kp.lt
  replace Ki := Ki.below hb Ki.lt
  replace Km := Km.below hb Km.lt
  replace Kr := Kr.below hb Kr.lt
  replace Kz := Kz.below hb Kz.lt
  replace Kv := Kv.below hb Kv.lt
  replace hbw : Below w.heap.size w w2 := btrans hbw hst
  replace HR := Lib.hid (HR.out.below hst)
  clear hst hst0 hb lKp cKp0 cKp1 cKp2 lKi cKi0 cKi1 cKi2 cKi3 lKm cKm0 cKm1 cKm2 cKm3 cKm4 cKm5 lKr cKr0 cKr1 cKr2 lKz cKz0 cKz1 cKz2 fKz0 fKz1 fKz2 Ki Km
  have lKp := Kp.lt
  have cKp0 := Kp.cell 0
  have cKp1 := Kp.cell 1
  have cKp2 := Kp.cell 2
  have lKr := Kr.lt
  have cKr0 := Kr.cell 0
  have cKr1 := Kr.cell 1
  have cKr2 := Kr.cell 2
  have lKz := Kz.lt
  have cKz0 := Kz.cell 0
  have cKz1 := Kz.cell 1
  have cKz2 := Kz.cell 2
  have fKz0 := Kz.frozen 0
  have fKz1 := Kz.frozen 1
  have fKz2 := Kz.frozen 2
  have lKv := Kv.lt
  have cKv0 := Kv.cell 0
  have cKv1 := Kv.cell 1
  have cKv2 := Kv.cell 2
  have cKv3 := Kv.cell 3
  have cKv4 := Kv.cell 4
  have cKv5 := Kv.cell 5
  have cKv6 := Kv.cell 6
  have cKv7 := Kv.cell 7
  have cKv8 := Kv.cell 8
  have cKv9 := Kv.cell 9
  have cKv10 := Kv.cell 10
  simp only [List.getElem?_toArray, List.getElem?_cons_succ, List.getElem?_cons_zero] at cKp0 cKp1 cKp2 cKr0 cKr1 cKr2 cKz0 cKz1 cKz2 cKv0 cKv1 cKv2 cKv3 cKv4 cKv5 cKv6 cKv7 cKv8 cKv9 cKv10
  have HKz := Lib.hid Kz
  have HBW := Lib.hid hbw
  clear Kz hbw
  go_wp2_with fail
  have K := ((HKz.out.set_ 0 (.int .i64 0)).set_ 1 (.int .i64 0)).set_ 2 (.slice none 0 0)
  refine ret_struct2 (g := w.heap.size + 1 + 1 + 1 + 1) (t := 46) (cs := #[.int .i64 0, .int .i64 0, .slice none 0 0]) rfl rfl ?_ Try.underlying46 rfl rfl rfl ?_
  · first | exact K | exact K.alloc _
  · exact ⟨rfl, by (repeat' (first | refine bset ?_ (by first | omega | (simp <;> omega)) _ | refine balloc ?_ _ | refine Below.drew ?_ | refine below_drewN ?_ _ | exact HBW.out | exact Below.refl _ _))⟩
set_option maxRecDepth 100000 in
set_option maxHeartbeats 3200000 in
theorem paint_no3 (IW IH IB ma mb mc md me mf : Int) (s : ByteArray) (t : Int) (pw ph rw_ rh : Int) (n c m d : Nat) (A D : Option Addr) (L : Nat → List (Int × Int)) (w : World) (hr : rg.Rows w D m d L) (HL : Hid (∀ W', Calls Try.prog 58 #[.agg #[.int .i64 IW, .int .i64 IH, .int .i64 IB, .string s], .agg #[.int .i64 ma, .int .i64 mb, .int .i64 mc, .int .i64 md, .int .i64 me, .int .i64 mf]] W' fun ed w' => ed = .returned (.tuple #[.agg #[.int .i64 IW, .int .i64 IH, .int .i64 IB, .string s, .int .i64 ma, .int .i64 mb, .int .i64 mc, .int .i64 md, .int .i64 me, .int .i64 mf, .int .i64 t], .bool true]) ∧ Below W'.heap.size W' w')) (HM1 : Hid (∀ W', Calls Try.prog 71 #[.agg #[.int .i64 pw, .int .i64 ph, .slice A n c]] W' fun ed w' => ed = .returned (.bool true) ∧ Below W'.heap.size W' w')) (HM2 : Hid (∀ W', rg.Rows W' D m d L → Calls Try.prog 72 #[.agg #[.int .i64 rw_, .int .i64 rh, .slice D m d]] W' fun ed w' => ed = .returned (.bool false) ∧ Below W'.heap.size W' w')) :
    Calls Try.prog 31 #[.agg #[.int .i64 pw, .int .i64 ph, .slice A n c], .agg #[.int .i64 IW, .int .i64 IH, .int .i64 IB, .string s], .agg #[.int .i64 ma, .int .i64 mb, .int .i64 mc, .int .i64 md, .int .i64 me, .int .i64 mf], .agg #[.int .i64 rw_, .int .i64 rh, .slice D m d]] w fun e w' => e = .returned (.tuple #[.agg #[.int .i64 0, .int .i64 0, .slice none 0 0], .int .i64 1]) ∧ Below w.heap.size w w' := by
  have HR := Lib.hid hr
  clear hr
  go_enter Try.func31, Try.ntmps31
  go_wp2_with fail
  have hst0 : Below w.heap.size w (((((w.alloc (.cells #[.int .i64 pw, .int .i64 ph, .slice A n c] 46)).alloc (.cells #[.int .i64 IW, .int .i64 IH, .int .i64 IB, .string s] 23)).alloc (.cells #[.int .i64 ma, .int .i64 mb, .int .i64 mc, .int .i64 md, .int .i64 me, .int .i64 mf] 25)).alloc (.cells #[.int .i64 rw_, .int .i64 rh, .slice D m d] 51)).alloc (.cells #[.int .i64 0, .int .i64 0, .slice none 0 0] 46)) := by (repeat' (first | exact Below.refl _ _ | exact Below.refl _ _ | refine balloc ?_ _ | refine Below.drew ?_ | refine below_drewN ?_ _ | refine bset ?_ (by first | omega | (simp <;> omega)) _))
  refine (HL.out _).mono ?_
  rintro e_ w1 ⟨rfl, hb⟩
  have hst : Below w.heap.size w w1 := btrans hst0 hb
  have Kp := (((((Blk.new w 46 #[.int .i64 pw, .int .i64 ph, .slice A n c]).alloc (.cells #[.int .i64 IW, .int .i64 IH, .int .i64 IB, .string s] 23)).alloc (.cells #[.int .i64 ma, .int .i64 mb, .int .i64 mc, .int .i64 md, .int .i64 me, .int .i64 mf] 25)).alloc (.cells #[.int .i64 rw_, .int .i64 rh, .slice D m d] 51)).alloc (.cells #[.int .i64 0, .int .i64 0, .slice none 0 0] 46))
  have Ki := ((((Blk.new (w.alloc (.cells #[.int .i64 pw, .int .i64 ph, .slice A n c] 46)) 23 #[.int .i64 IW, .int .i64 IH, .int .i64 IB, .string s]).alloc (.cells #[.int .i64 ma, .int .i64 mb, .int .i64 mc, .int .i64 md, .int .i64 me, .int .i64 mf] 25)).alloc (.cells #[.int .i64 rw_, .int .i64 rh, .slice D m d] 51)).alloc (.cells #[.int .i64 0, .int .i64 0, .slice none 0 0] 46))
  have hz_Ki : (w.alloc (.cells #[.int .i64 pw, .int .i64 ph, .slice A n c] 46)).heap.size = w.heap.size + 1 := by simp
  rw [hz_Ki] at Ki
  clear hz_Ki
  have Km := (((Blk.new ((w.alloc (.cells #[.int .i64 pw, .int .i64 ph, .slice A n c] 46)).alloc (.cells #[.int .i64 IW, .int .i64 IH, .int .i64 IB, .string s] 23)) 25 #[.int .i64 ma, .int .i64 mb, .int .i64 mc, .int .i64 md, .int .i64 me, .int .i64 mf]).alloc (.cells #[.int .i64 rw_, .int .i64 rh, .slice D m d] 51)).alloc (.cells #[.int .i64 0, .int .i64 0, .slice none 0 0] 46))
  have hz_Km : ((w.alloc (.cells #[.int .i64 pw, .int .i64 ph, .slice A n c] 46)).alloc (.cells #[.int .i64 IW, .int .i64 IH, .int .i64 IB, .string s] 23)).heap.size = w.heap.size + 1 + 1 := by simp
  rw [hz_Km] at Km
  clear hz_Km
  have Kr := ((Blk.new (((w.alloc (.cells #[.int .i64 pw, .int .i64 ph, .slice A n c] 46)).alloc (.cells #[.int .i64 IW, .int .i64 IH, .int .i64 IB, .string s] 23)).alloc (.cells #[.int .i64 ma, .int .i64 mb, .int .i64 mc, .int .i64 md, .int .i64 me, .int .i64 mf] 25)) 51 #[.int .i64 rw_, .int .i64 rh, .slice D m d]).alloc (.cells #[.int .i64 0, .int .i64 0, .slice none 0 0] 46))
  have hz_Kr : (((w.alloc (.cells #[.int .i64 pw, .int .i64 ph, .slice A n c] 46)).alloc (.cells #[.int .i64 IW, .int .i64 IH, .int .i64 IB, .string s] 23)).alloc (.cells #[.int .i64 ma, .int .i64 mb, .int .i64 mc, .int .i64 md, .int .i64 me, .int .i64 mf] 25)).heap.size = w.heap.size + 1 + 1 + 1 := by simp
  rw [hz_Kr] at Kr
  clear hz_Kr
  have Kz := (Blk.new ((((w.alloc (.cells #[.int .i64 pw, .int .i64 ph, .slice A n c] 46)).alloc (.cells #[.int .i64 IW, .int .i64 IH, .int .i64 IB, .string s] 23)).alloc (.cells #[.int .i64 ma, .int .i64 mb, .int .i64 mc, .int .i64 md, .int .i64 me, .int .i64 mf] 25)).alloc (.cells #[.int .i64 rw_, .int .i64 rh, .slice D m d] 51)) 46 #[.int .i64 0, .int .i64 0, .slice none 0 0])
  have hz_Kz : ((((w.alloc (.cells #[.int .i64 pw, .int .i64 ph, .slice A n c] 46)).alloc (.cells #[.int .i64 IW, .int .i64 IH, .int .i64 IB, .string s] 23)).alloc (.cells #[.int .i64 ma, .int .i64 mb, .int .i64 mc, .int .i64 md, .int .i64 me, .int .i64 mf] 25)).alloc (.cells #[.int .i64 rw_, .int .i64 rh, .slice D m d] 51)).heap.size = w.heap.size + 1 + 1 + 1 + 1 := by simp
  rw [hz_Kz] at Kz
  clear hz_Kz
  replace Kp := Kp.below hb Kp.lt
  replace Ki := Ki.below hb Ki.lt
  replace Km := Km.below hb Km.lt
  replace Kr := Kr.below hb Kr.lt
  replace Kz := Kz.below hb Kz.lt
  have hbw : Below w.heap.size w w1 := hst
  replace HR := Lib.hid (HR.out.below hst)
  clear hst hst0 hb 
  have lKp := Kp.lt
  have cKp0 := Kp.cell 0
  have cKp1 := Kp.cell 1
  have cKp2 := Kp.cell 2
  have lKi := Ki.lt
  have cKi0 := Ki.cell 0
  have cKi1 := Ki.cell 1
  have cKi2 := Ki.cell 2
  have cKi3 := Ki.cell 3
  have lKm := Km.lt
  have cKm0 := Km.cell 0
  have cKm1 := Km.cell 1
  have cKm2 := Km.cell 2
  have cKm3 := Km.cell 3
  have cKm4 := Km.cell 4
  have cKm5 := Km.cell 5
  have lKr := Kr.lt
  have cKr0 := Kr.cell 0
  have cKr1 := Kr.cell 1
  have cKr2 := Kr.cell 2
  have lKz := Kz.lt
  have cKz0 := Kz.cell 0
  have cKz1 := Kz.cell 1
  have cKz2 := Kz.cell 2
  have fKz0 := Kz.frozen 0
  have fKz1 := Kz.frozen 1
  have fKz2 := Kz.frozen 2
  simp only [List.getElem?_toArray, List.getElem?_cons_succ, List.getElem?_cons_zero] at cKp0 cKp1 cKp2 cKi0 cKi1 cKi2 cKi3 cKm0 cKm1 cKm2 cKm3 cKm4 cKm5 cKr0 cKr1 cKr2 cKz0 cKz1 cKz2
  have lz := lKz
  go_wp2_with fail
  have hst0 : Below w1.heap.size w1 (w1.alloc (.cells #[.int .i64 IW, .int .i64 IH, .int .i64 IB, .string s, .int .i64 ma, .int .i64 mb, .int .i64 mc, .int .i64 md, .int .i64 me, .int .i64 mf, .int .i64 t] 92)) := by (repeat' (first | exact Below.refl _ _ | exact Below.refl _ _ | refine balloc ?_ _ | refine Below.drew ?_ | refine below_drewN ?_ _ | refine bset ?_ (by first | omega | (simp <;> omega)) _))
  refine (HM1.out _).mono ?_
  rintro e_ w2 ⟨rfl, hb⟩
  have hst : Below w1.heap.size w1 w2 := btrans hst0 hb
  replace Kp := (Kp.alloc (.cells #[.int .i64 IW, .int .i64 IH, .int .i64 IB, .string s, .int .i64 ma, .int .i64 mb, .int .i64 mc, .int .i64 md, .int .i64 me, .int .i64 mf, .int .i64 t] 92))
  replace Ki := (Ki.alloc (.cells #[.int .i64 IW, .int .i64 IH, .int .i64 IB, .string s, .int .i64 ma, .int .i64 mb, .int .i64 mc, .int .i64 md, .int .i64 me, .int .i64 mf, .int .i64 t] 92))
  replace Km := (Km.alloc (.cells #[.int .i64 IW, .int .i64 IH, .int .i64 IB, .string s, .int .i64 ma, .int .i64 mb, .int .i64 mc, .int .i64 md, .int .i64 me, .int .i64 mf, .int .i64 t] 92))
  replace Kr := (Kr.alloc (.cells #[.int .i64 IW, .int .i64 IH, .int .i64 IB, .string s, .int .i64 ma, .int .i64 mb, .int .i64 mc, .int .i64 md, .int .i64 me, .int .i64 mf, .int .i64 t] 92))
  replace Kz := (Kz.alloc (.cells #[.int .i64 IW, .int .i64 IH, .int .i64 IB, .string s, .int .i64 ma, .int .i64 mb, .int .i64 mc, .int .i64 md, .int .i64 me, .int .i64 mf, .int .i64 t] 92))
  have Kv := (Blk.new w1 92 #[.int .i64 IW, .int .i64 IH, .int .i64 IB, .string s, .int .i64 ma, .int .i64 mb, .int .i64 mc, .int .i64 md, .int .i64 me, .int .i64 mf, .int .i64 t])
  replace Kp := Kp.below hb Kp.lt
  replace Ki := Ki.below hb Ki.lt
  replace Km := Km.below hb Km.lt
  replace Kr := Kr.below hb Kr.lt
  replace Kz := Kz.below hb Kz.lt
  replace Kv := Kv.below hb Kv.lt
  replace hbw : Below w.heap.size w w2 := btrans hbw hst
  replace HR := Lib.hid (HR.out.below hst)
  clear hst hst0 hb lKp cKp0 cKp1 cKp2 lKi cKi0 cKi1 cKi2 cKi3 lKm cKm0 cKm1 cKm2 cKm3 cKm4 cKm5 lKr cKr0 cKr1 cKr2 lKz cKz0 cKz1 cKz2 fKz0 fKz1 fKz2 Ki Km
  have lKp := Kp.lt
  have cKp0 := Kp.cell 0
  have cKp1 := Kp.cell 1
  have cKp2 := Kp.cell 2
  have lKr := Kr.lt
  have cKr0 := Kr.cell 0
  have cKr1 := Kr.cell 1
  have cKr2 := Kr.cell 2
  have lKz := Kz.lt
  have cKz0 := Kz.cell 0
  have cKz1 := Kz.cell 1
  have cKz2 := Kz.cell 2
  have fKz0 := Kz.frozen 0
  have fKz1 := Kz.frozen 1
  have fKz2 := Kz.frozen 2
  have lKv := Kv.lt
  have cKv0 := Kv.cell 0
  have cKv1 := Kv.cell 1
  have cKv2 := Kv.cell 2
  have cKv3 := Kv.cell 3
  have cKv4 := Kv.cell 4
  have cKv5 := Kv.cell 5
  have cKv6 := Kv.cell 6
  have cKv7 := Kv.cell 7
  have cKv8 := Kv.cell 8
  have cKv9 := Kv.cell 9
  have cKv10 := Kv.cell 10
  simp only [List.getElem?_toArray, List.getElem?_cons_succ, List.getElem?_cons_zero] at cKp0 cKp1 cKp2 cKr0 cKr1 cKr2 cKz0 cKz1 cKz2 cKv0 cKv1 cKv2 cKv3 cKv4 cKv5 cKv6 cKv7 cKv8 cKv9 cKv10
  go_wp2_with fail
  have hst0 : Below w2.heap.size w2 w2 := by (repeat' (first | exact Below.refl _ _ | exact Below.refl _ _ | refine balloc ?_ _ | refine Below.drew ?_ | refine below_drewN ?_ _ | refine bset ?_ (by first | omega | (simp <;> omega)) _))
  refine (HM2.out _ (HR.out.below hst0)).mono ?_
  rintro e_ w3 ⟨rfl, hb⟩
  have hst : Below w2.heap.size w2 w3 := btrans hst0 hb
  replace Kp := Kp.below hb Kp.lt
  replace Kr := Kr.below hb Kr.lt
  replace Kz := Kz.below hb Kz.lt
  replace Kv := Kv.below hb Kv.lt
  replace hbw : Below w.heap.size w w3 := btrans hbw hst
  replace HR := Lib.hid (HR.out.below hst)
  clear hst hst0 hb lKp cKp0 cKp1 cKp2 lKr cKr0 cKr1 cKr2 lKz cKz0 cKz1 cKz2 fKz0 fKz1 fKz2 lKv cKv0 cKv1 cKv2 cKv3 cKv4 cKv5 cKv6 cKv7 cKv8 cKv9 cKv10
  have lKp := Kp.lt
  have cKp0 := Kp.cell 0
  have cKp1 := Kp.cell 1
  have cKp2 := Kp.cell 2
  have lKr := Kr.lt
  have cKr0 := Kr.cell 0
  have cKr1 := Kr.cell 1
  have cKr2 := Kr.cell 2
  have lKz := Kz.lt
  have cKz0 := Kz.cell 0
  have cKz1 := Kz.cell 1
  have cKz2 := Kz.cell 2
  have fKz0 := Kz.frozen 0
  have fKz1 := Kz.frozen 1
  have fKz2 := Kz.frozen 2
  have lKv := Kv.lt
  have cKv0 := Kv.cell 0
  have cKv1 := Kv.cell 1
  have cKv2 := Kv.cell 2
  have cKv3 := Kv.cell 3
  have cKv4 := Kv.cell 4
  have cKv5 := Kv.cell 5
  have cKv6 := Kv.cell 6
  have cKv7 := Kv.cell 7
  have cKv8 := Kv.cell 8
  have cKv9 := Kv.cell 9
  have cKv10 := Kv.cell 10
  simp only [List.getElem?_toArray, List.getElem?_cons_succ, List.getElem?_cons_zero] at cKp0 cKp1 cKp2 cKr0 cKr1 cKr2 cKz0 cKz1 cKz2 cKv0 cKv1 cKv2 cKv3 cKv4 cKv5 cKv6 cKv7 cKv8 cKv9 cKv10
  have HKz := Lib.hid Kz
  have HBW := Lib.hid hbw
  clear Kz hbw
  go_wp2_with fail
  have K := ((HKz.out.set_ 0 (.int .i64 0)).set_ 1 (.int .i64 0)).set_ 2 (.slice none 0 0)
  refine ret_struct2 (g := w.heap.size + 1 + 1 + 1 + 1) (t := 46) (cs := #[.int .i64 0, .int .i64 0, .slice none 0 0]) rfl rfl ?_ Try.underlying46 rfl rfl rfl ?_
  · first | exact K | exact K.alloc _
  · exact ⟨rfl, by (repeat' (first | refine bset ?_ (by first | omega | (simp <;> omega)) _ | refine balloc ?_ _ | refine Below.drew ?_ | refine below_drewN ?_ _ | exact HBW.out | exact Below.refl _ _))⟩
set_option maxRecDepth 100000 in
set_option maxHeartbeats 3200000 in
theorem paint_no4 (IW IH IB ma mb mc md me mf : Int) (s : ByteArray) (t : Int) (pw ph rw_ rh : Int) (n c m d : Nat) (A D : Option Addr) (L : Nat → List (Int × Int)) (w : World) (hr : rg.Rows w D m d L) (HL : Hid (∀ W', Calls Try.prog 58 #[.agg #[.int .i64 IW, .int .i64 IH, .int .i64 IB, .string s], .agg #[.int .i64 ma, .int .i64 mb, .int .i64 mc, .int .i64 md, .int .i64 me, .int .i64 mf]] W' fun ed w' => ed = .returned (.tuple #[.agg #[.int .i64 IW, .int .i64 IH, .int .i64 IB, .string s, .int .i64 ma, .int .i64 mb, .int .i64 mc, .int .i64 md, .int .i64 me, .int .i64 mf, .int .i64 t], .bool true]) ∧ Below W'.heap.size W' w')) (HM1 : Hid (∀ W', Calls Try.prog 71 #[.agg #[.int .i64 pw, .int .i64 ph, .slice A n c]] W' fun ed w' => ed = .returned (.bool true) ∧ Below W'.heap.size W' w')) (HM2 : Hid (∀ W', rg.Rows W' D m d L → Calls Try.prog 72 #[.agg #[.int .i64 rw_, .int .i64 rh, .slice D m d]] W' fun ed w' => ed = .returned (.bool true) ∧ Below W'.heap.size W' w')) (hne : ¬ pw = rw_) :
    Calls Try.prog 31 #[.agg #[.int .i64 pw, .int .i64 ph, .slice A n c], .agg #[.int .i64 IW, .int .i64 IH, .int .i64 IB, .string s], .agg #[.int .i64 ma, .int .i64 mb, .int .i64 mc, .int .i64 md, .int .i64 me, .int .i64 mf], .agg #[.int .i64 rw_, .int .i64 rh, .slice D m d]] w fun e w' => e = .returned (.tuple #[.agg #[.int .i64 0, .int .i64 0, .slice none 0 0], .int .i64 1]) ∧ Below w.heap.size w w' := by
  have HR := Lib.hid hr
  clear hr
  go_enter Try.func31, Try.ntmps31
  go_wp2_with fail
  have hst0 : Below w.heap.size w (((((w.alloc (.cells #[.int .i64 pw, .int .i64 ph, .slice A n c] 46)).alloc (.cells #[.int .i64 IW, .int .i64 IH, .int .i64 IB, .string s] 23)).alloc (.cells #[.int .i64 ma, .int .i64 mb, .int .i64 mc, .int .i64 md, .int .i64 me, .int .i64 mf] 25)).alloc (.cells #[.int .i64 rw_, .int .i64 rh, .slice D m d] 51)).alloc (.cells #[.int .i64 0, .int .i64 0, .slice none 0 0] 46)) := by (repeat' (first | exact Below.refl _ _ | exact Below.refl _ _ | refine balloc ?_ _ | refine Below.drew ?_ | refine below_drewN ?_ _ | refine bset ?_ (by first | omega | (simp <;> omega)) _))
  refine (HL.out _).mono ?_
  rintro e_ w1 ⟨rfl, hb⟩
  have hst : Below w.heap.size w w1 := btrans hst0 hb
  have Kp := (((((Blk.new w 46 #[.int .i64 pw, .int .i64 ph, .slice A n c]).alloc (.cells #[.int .i64 IW, .int .i64 IH, .int .i64 IB, .string s] 23)).alloc (.cells #[.int .i64 ma, .int .i64 mb, .int .i64 mc, .int .i64 md, .int .i64 me, .int .i64 mf] 25)).alloc (.cells #[.int .i64 rw_, .int .i64 rh, .slice D m d] 51)).alloc (.cells #[.int .i64 0, .int .i64 0, .slice none 0 0] 46))
  have Ki := ((((Blk.new (w.alloc (.cells #[.int .i64 pw, .int .i64 ph, .slice A n c] 46)) 23 #[.int .i64 IW, .int .i64 IH, .int .i64 IB, .string s]).alloc (.cells #[.int .i64 ma, .int .i64 mb, .int .i64 mc, .int .i64 md, .int .i64 me, .int .i64 mf] 25)).alloc (.cells #[.int .i64 rw_, .int .i64 rh, .slice D m d] 51)).alloc (.cells #[.int .i64 0, .int .i64 0, .slice none 0 0] 46))
  have hz_Ki : (w.alloc (.cells #[.int .i64 pw, .int .i64 ph, .slice A n c] 46)).heap.size = w.heap.size + 1 := by simp
  rw [hz_Ki] at Ki
  clear hz_Ki
  have Km := (((Blk.new ((w.alloc (.cells #[.int .i64 pw, .int .i64 ph, .slice A n c] 46)).alloc (.cells #[.int .i64 IW, .int .i64 IH, .int .i64 IB, .string s] 23)) 25 #[.int .i64 ma, .int .i64 mb, .int .i64 mc, .int .i64 md, .int .i64 me, .int .i64 mf]).alloc (.cells #[.int .i64 rw_, .int .i64 rh, .slice D m d] 51)).alloc (.cells #[.int .i64 0, .int .i64 0, .slice none 0 0] 46))
  have hz_Km : ((w.alloc (.cells #[.int .i64 pw, .int .i64 ph, .slice A n c] 46)).alloc (.cells #[.int .i64 IW, .int .i64 IH, .int .i64 IB, .string s] 23)).heap.size = w.heap.size + 1 + 1 := by simp
  rw [hz_Km] at Km
  clear hz_Km
  have Kr := ((Blk.new (((w.alloc (.cells #[.int .i64 pw, .int .i64 ph, .slice A n c] 46)).alloc (.cells #[.int .i64 IW, .int .i64 IH, .int .i64 IB, .string s] 23)).alloc (.cells #[.int .i64 ma, .int .i64 mb, .int .i64 mc, .int .i64 md, .int .i64 me, .int .i64 mf] 25)) 51 #[.int .i64 rw_, .int .i64 rh, .slice D m d]).alloc (.cells #[.int .i64 0, .int .i64 0, .slice none 0 0] 46))
  have hz_Kr : (((w.alloc (.cells #[.int .i64 pw, .int .i64 ph, .slice A n c] 46)).alloc (.cells #[.int .i64 IW, .int .i64 IH, .int .i64 IB, .string s] 23)).alloc (.cells #[.int .i64 ma, .int .i64 mb, .int .i64 mc, .int .i64 md, .int .i64 me, .int .i64 mf] 25)).heap.size = w.heap.size + 1 + 1 + 1 := by simp
  rw [hz_Kr] at Kr
  clear hz_Kr
  have Kz := (Blk.new ((((w.alloc (.cells #[.int .i64 pw, .int .i64 ph, .slice A n c] 46)).alloc (.cells #[.int .i64 IW, .int .i64 IH, .int .i64 IB, .string s] 23)).alloc (.cells #[.int .i64 ma, .int .i64 mb, .int .i64 mc, .int .i64 md, .int .i64 me, .int .i64 mf] 25)).alloc (.cells #[.int .i64 rw_, .int .i64 rh, .slice D m d] 51)) 46 #[.int .i64 0, .int .i64 0, .slice none 0 0])
  have hz_Kz : ((((w.alloc (.cells #[.int .i64 pw, .int .i64 ph, .slice A n c] 46)).alloc (.cells #[.int .i64 IW, .int .i64 IH, .int .i64 IB, .string s] 23)).alloc (.cells #[.int .i64 ma, .int .i64 mb, .int .i64 mc, .int .i64 md, .int .i64 me, .int .i64 mf] 25)).alloc (.cells #[.int .i64 rw_, .int .i64 rh, .slice D m d] 51)).heap.size = w.heap.size + 1 + 1 + 1 + 1 := by simp
  rw [hz_Kz] at Kz
  clear hz_Kz
  replace Kp := Kp.below hb Kp.lt
  replace Ki := Ki.below hb Ki.lt
  replace Km := Km.below hb Km.lt
  replace Kr := Kr.below hb Kr.lt
  replace Kz := Kz.below hb Kz.lt
  have hbw : Below w.heap.size w w1 := hst
  replace HR := Lib.hid (HR.out.below hst)
  clear hst hst0 hb 
  have lKp := Kp.lt
  have cKp0 := Kp.cell 0
  have cKp1 := Kp.cell 1
  have cKp2 := Kp.cell 2
  have lKi := Ki.lt
  have cKi0 := Ki.cell 0
  have cKi1 := Ki.cell 1
  have cKi2 := Ki.cell 2
  have cKi3 := Ki.cell 3
  have lKm := Km.lt
  have cKm0 := Km.cell 0
  have cKm1 := Km.cell 1
  have cKm2 := Km.cell 2
  have cKm3 := Km.cell 3
  have cKm4 := Km.cell 4
  have cKm5 := Km.cell 5
  have lKr := Kr.lt
  have cKr0 := Kr.cell 0
  have cKr1 := Kr.cell 1
  have cKr2 := Kr.cell 2
  have lKz := Kz.lt
  have cKz0 := Kz.cell 0
  have cKz1 := Kz.cell 1
  have cKz2 := Kz.cell 2
  have fKz0 := Kz.frozen 0
  have fKz1 := Kz.frozen 1
  have fKz2 := Kz.frozen 2
  simp only [List.getElem?_toArray, List.getElem?_cons_succ, List.getElem?_cons_zero] at cKp0 cKp1 cKp2 cKi0 cKi1 cKi2 cKi3 cKm0 cKm1 cKm2 cKm3 cKm4 cKm5 cKr0 cKr1 cKr2 cKz0 cKz1 cKz2
  have lz := lKz
  go_wp2_with fail
  have hst0 : Below w1.heap.size w1 (w1.alloc (.cells #[.int .i64 IW, .int .i64 IH, .int .i64 IB, .string s, .int .i64 ma, .int .i64 mb, .int .i64 mc, .int .i64 md, .int .i64 me, .int .i64 mf, .int .i64 t] 92)) := by (repeat' (first | exact Below.refl _ _ | exact Below.refl _ _ | refine balloc ?_ _ | refine Below.drew ?_ | refine below_drewN ?_ _ | refine bset ?_ (by first | omega | (simp <;> omega)) _))
  refine (HM1.out _).mono ?_
  rintro e_ w2 ⟨rfl, hb⟩
  have hst : Below w1.heap.size w1 w2 := btrans hst0 hb
  replace Kp := (Kp.alloc (.cells #[.int .i64 IW, .int .i64 IH, .int .i64 IB, .string s, .int .i64 ma, .int .i64 mb, .int .i64 mc, .int .i64 md, .int .i64 me, .int .i64 mf, .int .i64 t] 92))
  replace Ki := (Ki.alloc (.cells #[.int .i64 IW, .int .i64 IH, .int .i64 IB, .string s, .int .i64 ma, .int .i64 mb, .int .i64 mc, .int .i64 md, .int .i64 me, .int .i64 mf, .int .i64 t] 92))
  replace Km := (Km.alloc (.cells #[.int .i64 IW, .int .i64 IH, .int .i64 IB, .string s, .int .i64 ma, .int .i64 mb, .int .i64 mc, .int .i64 md, .int .i64 me, .int .i64 mf, .int .i64 t] 92))
  replace Kr := (Kr.alloc (.cells #[.int .i64 IW, .int .i64 IH, .int .i64 IB, .string s, .int .i64 ma, .int .i64 mb, .int .i64 mc, .int .i64 md, .int .i64 me, .int .i64 mf, .int .i64 t] 92))
  replace Kz := (Kz.alloc (.cells #[.int .i64 IW, .int .i64 IH, .int .i64 IB, .string s, .int .i64 ma, .int .i64 mb, .int .i64 mc, .int .i64 md, .int .i64 me, .int .i64 mf, .int .i64 t] 92))
  have Kv := (Blk.new w1 92 #[.int .i64 IW, .int .i64 IH, .int .i64 IB, .string s, .int .i64 ma, .int .i64 mb, .int .i64 mc, .int .i64 md, .int .i64 me, .int .i64 mf, .int .i64 t])
  replace Kp := Kp.below hb Kp.lt
  replace Ki := Ki.below hb Ki.lt
  replace Km := Km.below hb Km.lt
  replace Kr := Kr.below hb Kr.lt
  replace Kz := Kz.below hb Kz.lt
  replace Kv := Kv.below hb Kv.lt
  replace hbw : Below w.heap.size w w2 := btrans hbw hst
  replace HR := Lib.hid (HR.out.below hst)
  clear hst hst0 hb lKp cKp0 cKp1 cKp2 lKi cKi0 cKi1 cKi2 cKi3 lKm cKm0 cKm1 cKm2 cKm3 cKm4 cKm5 lKr cKr0 cKr1 cKr2 lKz cKz0 cKz1 cKz2 fKz0 fKz1 fKz2 Ki Km
  have lKp := Kp.lt
  have cKp0 := Kp.cell 0
  have cKp1 := Kp.cell 1
  have cKp2 := Kp.cell 2
  have lKr := Kr.lt
  have cKr0 := Kr.cell 0
  have cKr1 := Kr.cell 1
  have cKr2 := Kr.cell 2
  have lKz := Kz.lt
  have cKz0 := Kz.cell 0
  have cKz1 := Kz.cell 1
  have cKz2 := Kz.cell 2
  have fKz0 := Kz.frozen 0
  have fKz1 := Kz.frozen 1
  have fKz2 := Kz.frozen 2
  have lKv := Kv.lt
  have cKv0 := Kv.cell 0
  have cKv1 := Kv.cell 1
  have cKv2 := Kv.cell 2
  have cKv3 := Kv.cell 3
  have cKv4 := Kv.cell 4
  have cKv5 := Kv.cell 5
  have cKv6 := Kv.cell 6
  have cKv7 := Kv.cell 7
  have cKv8 := Kv.cell 8
  have cKv9 := Kv.cell 9
  have cKv10 := Kv.cell 10
  simp only [List.getElem?_toArray, List.getElem?_cons_succ, List.getElem?_cons_zero] at cKp0 cKp1 cKp2 cKr0 cKr1 cKr2 cKz0 cKz1 cKz2 cKv0 cKv1 cKv2 cKv3 cKv4 cKv5 cKv6 cKv7 cKv8 cKv9 cKv10
  go_wp2_with fail
  have hst0 : Below w2.heap.size w2 w2 := by (repeat' (first | exact Below.refl _ _ | exact Below.refl _ _ | refine balloc ?_ _ | refine Below.drew ?_ | refine below_drewN ?_ _ | refine bset ?_ (by first | omega | (simp <;> omega)) _))
  refine (HM2.out _ (HR.out.below hst0)).mono ?_
  rintro e_ w3 ⟨rfl, hb⟩
  have hst : Below w2.heap.size w2 w3 := btrans hst0 hb
  replace Kp := Kp.below hb Kp.lt
  replace Kr := Kr.below hb Kr.lt
  replace Kz := Kz.below hb Kz.lt
  replace Kv := Kv.below hb Kv.lt
  replace hbw : Below w.heap.size w w3 := btrans hbw hst
  replace HR := Lib.hid (HR.out.below hst)
  clear hst hst0 hb lKp cKp0 cKp1 cKp2 lKr cKr0 cKr1 cKr2 lKz cKz0 cKz1 cKz2 fKz0 fKz1 fKz2 lKv cKv0 cKv1 cKv2 cKv3 cKv4 cKv5 cKv6 cKv7 cKv8 cKv9 cKv10
  have lKp := Kp.lt
  have cKp0 := Kp.cell 0
  have cKp1 := Kp.cell 1
  have cKp2 := Kp.cell 2
  have lKr := Kr.lt
  have cKr0 := Kr.cell 0
  have cKr1 := Kr.cell 1
  have cKr2 := Kr.cell 2
  have lKz := Kz.lt
  have cKz0 := Kz.cell 0
  have cKz1 := Kz.cell 1
  have cKz2 := Kz.cell 2
  have fKz0 := Kz.frozen 0
  have fKz1 := Kz.frozen 1
  have fKz2 := Kz.frozen 2
  have lKv := Kv.lt
  have cKv0 := Kv.cell 0
  have cKv1 := Kv.cell 1
  have cKv2 := Kv.cell 2
  have cKv3 := Kv.cell 3
  have cKv4 := Kv.cell 4
  have cKv5 := Kv.cell 5
  have cKv6 := Kv.cell 6
  have cKv7 := Kv.cell 7
  have cKv8 := Kv.cell 8
  have cKv9 := Kv.cell 9
  have cKv10 := Kv.cell 10
  simp only [List.getElem?_toArray, List.getElem?_cons_succ, List.getElem?_cons_zero] at cKp0 cKp1 cKp2 cKr0 cKr1 cKr2 cKz0 cKz1 cKz2 cKv0 cKv1 cKv2 cKv3 cKv4 cKv5 cKv6 cKv7 cKv8 cKv9 cKv10
  have HKz := Lib.hid Kz
  have HBW := Lib.hid hbw
  clear Kz hbw
  go_wp2_with fail
  have K := ((HKz.out.set_ 0 (.int .i64 0)).set_ 1 (.int .i64 0)).set_ 2 (.slice none 0 0)
  refine ret_struct2 (g := w.heap.size + 1 + 1 + 1 + 1) (t := 46) (cs := #[.int .i64 0, .int .i64 0, .slice none 0 0]) rfl rfl ?_ Try.underlying46 rfl rfl rfl ?_
  · first | exact K | exact K.alloc _
  · exact ⟨rfl, by (repeat' (first | refine bset ?_ (by first | omega | (simp <;> omega)) _ | refine balloc ?_ _ | refine Below.drew ?_ | refine below_drewN ?_ _ | exact HBW.out | exact Below.refl _ _))⟩
set_option maxRecDepth 100000 in
set_option maxHeartbeats 3200000 in
theorem paint_no5 (IW IH IB ma mb mc md me mf : Int) (s : ByteArray) (t : Int) (pw ph rw_ rh : Int) (n c m d : Nat) (A D : Option Addr) (L : Nat → List (Int × Int)) (w : World) (hr : rg.Rows w D m d L) (HL : Hid (∀ W', Calls Try.prog 58 #[.agg #[.int .i64 IW, .int .i64 IH, .int .i64 IB, .string s], .agg #[.int .i64 ma, .int .i64 mb, .int .i64 mc, .int .i64 md, .int .i64 me, .int .i64 mf]] W' fun ed w' => ed = .returned (.tuple #[.agg #[.int .i64 IW, .int .i64 IH, .int .i64 IB, .string s, .int .i64 ma, .int .i64 mb, .int .i64 mc, .int .i64 md, .int .i64 me, .int .i64 mf, .int .i64 t], .bool true]) ∧ Below W'.heap.size W' w')) (HM1 : Hid (∀ W', Calls Try.prog 71 #[.agg #[.int .i64 pw, .int .i64 ph, .slice A n c]] W' fun ed w' => ed = .returned (.bool true) ∧ Below W'.heap.size W' w')) (HM2 : Hid (∀ W', rg.Rows W' D m d L → Calls Try.prog 72 #[.agg #[.int .i64 rw_, .int .i64 rh, .slice D m d]] W' fun ed w' => ed = .returned (.bool true) ∧ Below W'.heap.size W' w')) (heq : pw = rw_) (hne : ¬ ph = rh) :
    Calls Try.prog 31 #[.agg #[.int .i64 pw, .int .i64 ph, .slice A n c], .agg #[.int .i64 IW, .int .i64 IH, .int .i64 IB, .string s], .agg #[.int .i64 ma, .int .i64 mb, .int .i64 mc, .int .i64 md, .int .i64 me, .int .i64 mf], .agg #[.int .i64 rw_, .int .i64 rh, .slice D m d]] w fun e w' => e = .returned (.tuple #[.agg #[.int .i64 0, .int .i64 0, .slice none 0 0], .int .i64 1]) ∧ Below w.heap.size w w' := by
  have HR := Lib.hid hr
  clear hr
  subst heq
  go_enter Try.func31, Try.ntmps31
  go_wp2_with fail
  have hst0 : Below w.heap.size w (((((w.alloc (.cells #[.int .i64 pw, .int .i64 ph, .slice A n c] 46)).alloc (.cells #[.int .i64 IW, .int .i64 IH, .int .i64 IB, .string s] 23)).alloc (.cells #[.int .i64 ma, .int .i64 mb, .int .i64 mc, .int .i64 md, .int .i64 me, .int .i64 mf] 25)).alloc (.cells #[.int .i64 pw, .int .i64 rh, .slice D m d] 51)).alloc (.cells #[.int .i64 0, .int .i64 0, .slice none 0 0] 46)) := by (repeat' (first | exact Below.refl _ _ | exact Below.refl _ _ | refine balloc ?_ _ | refine Below.drew ?_ | refine below_drewN ?_ _ | refine bset ?_ (by first | omega | (simp <;> omega)) _))
  refine (HL.out _).mono ?_
  rintro e_ w1 ⟨rfl, hb⟩
  have hst : Below w.heap.size w w1 := btrans hst0 hb
  have Kp := (((((Blk.new w 46 #[.int .i64 pw, .int .i64 ph, .slice A n c]).alloc (.cells #[.int .i64 IW, .int .i64 IH, .int .i64 IB, .string s] 23)).alloc (.cells #[.int .i64 ma, .int .i64 mb, .int .i64 mc, .int .i64 md, .int .i64 me, .int .i64 mf] 25)).alloc (.cells #[.int .i64 pw, .int .i64 rh, .slice D m d] 51)).alloc (.cells #[.int .i64 0, .int .i64 0, .slice none 0 0] 46))
  have Ki := ((((Blk.new (w.alloc (.cells #[.int .i64 pw, .int .i64 ph, .slice A n c] 46)) 23 #[.int .i64 IW, .int .i64 IH, .int .i64 IB, .string s]).alloc (.cells #[.int .i64 ma, .int .i64 mb, .int .i64 mc, .int .i64 md, .int .i64 me, .int .i64 mf] 25)).alloc (.cells #[.int .i64 pw, .int .i64 rh, .slice D m d] 51)).alloc (.cells #[.int .i64 0, .int .i64 0, .slice none 0 0] 46))
  have hz_Ki : (w.alloc (.cells #[.int .i64 pw, .int .i64 ph, .slice A n c] 46)).heap.size = w.heap.size + 1 := by simp
  rw [hz_Ki] at Ki
  clear hz_Ki
  have Km := (((Blk.new ((w.alloc (.cells #[.int .i64 pw, .int .i64 ph, .slice A n c] 46)).alloc (.cells #[.int .i64 IW, .int .i64 IH, .int .i64 IB, .string s] 23)) 25 #[.int .i64 ma, .int .i64 mb, .int .i64 mc, .int .i64 md, .int .i64 me, .int .i64 mf]).alloc (.cells #[.int .i64 pw, .int .i64 rh, .slice D m d] 51)).alloc (.cells #[.int .i64 0, .int .i64 0, .slice none 0 0] 46))
  have hz_Km : ((w.alloc (.cells #[.int .i64 pw, .int .i64 ph, .slice A n c] 46)).alloc (.cells #[.int .i64 IW, .int .i64 IH, .int .i64 IB, .string s] 23)).heap.size = w.heap.size + 1 + 1 := by simp
  rw [hz_Km] at Km
  clear hz_Km
  have Kr := ((Blk.new (((w.alloc (.cells #[.int .i64 pw, .int .i64 ph, .slice A n c] 46)).alloc (.cells #[.int .i64 IW, .int .i64 IH, .int .i64 IB, .string s] 23)).alloc (.cells #[.int .i64 ma, .int .i64 mb, .int .i64 mc, .int .i64 md, .int .i64 me, .int .i64 mf] 25)) 51 #[.int .i64 pw, .int .i64 rh, .slice D m d]).alloc (.cells #[.int .i64 0, .int .i64 0, .slice none 0 0] 46))
  have hz_Kr : (((w.alloc (.cells #[.int .i64 pw, .int .i64 ph, .slice A n c] 46)).alloc (.cells #[.int .i64 IW, .int .i64 IH, .int .i64 IB, .string s] 23)).alloc (.cells #[.int .i64 ma, .int .i64 mb, .int .i64 mc, .int .i64 md, .int .i64 me, .int .i64 mf] 25)).heap.size = w.heap.size + 1 + 1 + 1 := by simp
  rw [hz_Kr] at Kr
  clear hz_Kr
  have Kz := (Blk.new ((((w.alloc (.cells #[.int .i64 pw, .int .i64 ph, .slice A n c] 46)).alloc (.cells #[.int .i64 IW, .int .i64 IH, .int .i64 IB, .string s] 23)).alloc (.cells #[.int .i64 ma, .int .i64 mb, .int .i64 mc, .int .i64 md, .int .i64 me, .int .i64 mf] 25)).alloc (.cells #[.int .i64 pw, .int .i64 rh, .slice D m d] 51)) 46 #[.int .i64 0, .int .i64 0, .slice none 0 0])
  have hz_Kz : ((((w.alloc (.cells #[.int .i64 pw, .int .i64 ph, .slice A n c] 46)).alloc (.cells #[.int .i64 IW, .int .i64 IH, .int .i64 IB, .string s] 23)).alloc (.cells #[.int .i64 ma, .int .i64 mb, .int .i64 mc, .int .i64 md, .int .i64 me, .int .i64 mf] 25)).alloc (.cells #[.int .i64 pw, .int .i64 rh, .slice D m d] 51)).heap.size = w.heap.size + 1 + 1 + 1 + 1 := by simp
  rw [hz_Kz] at Kz
  clear hz_Kz
  replace Kp := Kp.below hb Kp.lt
  replace Ki := Ki.below hb Ki.lt
  replace Km := Km.below hb Km.lt
  replace Kr := Kr.below hb Kr.lt
  replace Kz := Kz.below hb Kz.lt
  have hbw : Below w.heap.size w w1 := hst
  replace HR := Lib.hid (HR.out.below hst)
  clear hst hst0 hb 
  have lKp := Kp.lt
  have cKp0 := Kp.cell 0
  have cKp1 := Kp.cell 1
  have cKp2 := Kp.cell 2
  have lKi := Ki.lt
  have cKi0 := Ki.cell 0
  have cKi1 := Ki.cell 1
  have cKi2 := Ki.cell 2
  have cKi3 := Ki.cell 3
  have lKm := Km.lt
  have cKm0 := Km.cell 0
  have cKm1 := Km.cell 1
  have cKm2 := Km.cell 2
  have cKm3 := Km.cell 3
  have cKm4 := Km.cell 4
  have cKm5 := Km.cell 5
  have lKr := Kr.lt
  have cKr0 := Kr.cell 0
  have cKr1 := Kr.cell 1
  have cKr2 := Kr.cell 2
  have lKz := Kz.lt
  have cKz0 := Kz.cell 0
  have cKz1 := Kz.cell 1
  have cKz2 := Kz.cell 2
  have fKz0 := Kz.frozen 0
  have fKz1 := Kz.frozen 1
  have fKz2 := Kz.frozen 2
  simp only [List.getElem?_toArray, List.getElem?_cons_succ, List.getElem?_cons_zero] at cKp0 cKp1 cKp2 cKi0 cKi1 cKi2 cKi3 cKm0 cKm1 cKm2 cKm3 cKm4 cKm5 cKr0 cKr1 cKr2 cKz0 cKz1 cKz2
  have lz := lKz
  go_wp2_with fail
  have hst0 : Below w1.heap.size w1 (w1.alloc (.cells #[.int .i64 IW, .int .i64 IH, .int .i64 IB, .string s, .int .i64 ma, .int .i64 mb, .int .i64 mc, .int .i64 md, .int .i64 me, .int .i64 mf, .int .i64 t] 92)) := by (repeat' (first | exact Below.refl _ _ | exact Below.refl _ _ | refine balloc ?_ _ | refine Below.drew ?_ | refine below_drewN ?_ _ | refine bset ?_ (by first | omega | (simp <;> omega)) _))
  refine (HM1.out _).mono ?_
  rintro e_ w2 ⟨rfl, hb⟩
  have hst : Below w1.heap.size w1 w2 := btrans hst0 hb
  replace Kp := (Kp.alloc (.cells #[.int .i64 IW, .int .i64 IH, .int .i64 IB, .string s, .int .i64 ma, .int .i64 mb, .int .i64 mc, .int .i64 md, .int .i64 me, .int .i64 mf, .int .i64 t] 92))
  replace Ki := (Ki.alloc (.cells #[.int .i64 IW, .int .i64 IH, .int .i64 IB, .string s, .int .i64 ma, .int .i64 mb, .int .i64 mc, .int .i64 md, .int .i64 me, .int .i64 mf, .int .i64 t] 92))
  replace Km := (Km.alloc (.cells #[.int .i64 IW, .int .i64 IH, .int .i64 IB, .string s, .int .i64 ma, .int .i64 mb, .int .i64 mc, .int .i64 md, .int .i64 me, .int .i64 mf, .int .i64 t] 92))
  replace Kr := (Kr.alloc (.cells #[.int .i64 IW, .int .i64 IH, .int .i64 IB, .string s, .int .i64 ma, .int .i64 mb, .int .i64 mc, .int .i64 md, .int .i64 me, .int .i64 mf, .int .i64 t] 92))
  replace Kz := (Kz.alloc (.cells #[.int .i64 IW, .int .i64 IH, .int .i64 IB, .string s, .int .i64 ma, .int .i64 mb, .int .i64 mc, .int .i64 md, .int .i64 me, .int .i64 mf, .int .i64 t] 92))
  have Kv := (Blk.new w1 92 #[.int .i64 IW, .int .i64 IH, .int .i64 IB, .string s, .int .i64 ma, .int .i64 mb, .int .i64 mc, .int .i64 md, .int .i64 me, .int .i64 mf, .int .i64 t])
  replace Kp := Kp.below hb Kp.lt
  replace Ki := Ki.below hb Ki.lt
  replace Km := Km.below hb Km.lt
  replace Kr := Kr.below hb Kr.lt
  replace Kz := Kz.below hb Kz.lt
  replace Kv := Kv.below hb Kv.lt
  replace hbw : Below w.heap.size w w2 := btrans hbw hst
  replace HR := Lib.hid (HR.out.below hst)
  clear hst hst0 hb lKp cKp0 cKp1 cKp2 lKi cKi0 cKi1 cKi2 cKi3 lKm cKm0 cKm1 cKm2 cKm3 cKm4 cKm5 lKr cKr0 cKr1 cKr2 lKz cKz0 cKz1 cKz2 fKz0 fKz1 fKz2 Ki Km
  have lKp := Kp.lt
  have cKp0 := Kp.cell 0
  have cKp1 := Kp.cell 1
  have cKp2 := Kp.cell 2
  have lKr := Kr.lt
  have cKr0 := Kr.cell 0
  have cKr1 := Kr.cell 1
  have cKr2 := Kr.cell 2
  have lKz := Kz.lt
  have cKz0 := Kz.cell 0
  have cKz1 := Kz.cell 1
  have cKz2 := Kz.cell 2
  have fKz0 := Kz.frozen 0
  have fKz1 := Kz.frozen 1
  have fKz2 := Kz.frozen 2
  have lKv := Kv.lt
  have cKv0 := Kv.cell 0
  have cKv1 := Kv.cell 1
  have cKv2 := Kv.cell 2
  have cKv3 := Kv.cell 3
  have cKv4 := Kv.cell 4
  have cKv5 := Kv.cell 5
  have cKv6 := Kv.cell 6
  have cKv7 := Kv.cell 7
  have cKv8 := Kv.cell 8
  have cKv9 := Kv.cell 9
  have cKv10 := Kv.cell 10
  simp only [List.getElem?_toArray, List.getElem?_cons_succ, List.getElem?_cons_zero] at cKp0 cKp1 cKp2 cKr0 cKr1 cKr2 cKz0 cKz1 cKz2 cKv0 cKv1 cKv2 cKv3 cKv4 cKv5 cKv6 cKv7 cKv8 cKv9 cKv10
  go_wp2_with fail
  have hst0 : Below w2.heap.size w2 w2 := by (repeat' (first | exact Below.refl _ _ | exact Below.refl _ _ | refine balloc ?_ _ | refine Below.drew ?_ | refine below_drewN ?_ _ | refine bset ?_ (by first | omega | (simp <;> omega)) _))
  refine (HM2.out _ (HR.out.below hst0)).mono ?_
  rintro e_ w3 ⟨rfl, hb⟩
  have hst : Below w2.heap.size w2 w3 := btrans hst0 hb
  replace Kp := Kp.below hb Kp.lt
  replace Kr := Kr.below hb Kr.lt
  replace Kz := Kz.below hb Kz.lt
  replace Kv := Kv.below hb Kv.lt
  replace hbw : Below w.heap.size w w3 := btrans hbw hst
  replace HR := Lib.hid (HR.out.below hst)
  clear hst hst0 hb lKp cKp0 cKp1 cKp2 lKr cKr0 cKr1 cKr2 lKz cKz0 cKz1 cKz2 fKz0 fKz1 fKz2 lKv cKv0 cKv1 cKv2 cKv3 cKv4 cKv5 cKv6 cKv7 cKv8 cKv9 cKv10
  have lKp := Kp.lt
  have cKp0 := Kp.cell 0
  have cKp1 := Kp.cell 1
  have cKp2 := Kp.cell 2
  have lKr := Kr.lt
  have cKr0 := Kr.cell 0
  have cKr1 := Kr.cell 1
  have cKr2 := Kr.cell 2
  have lKz := Kz.lt
  have cKz0 := Kz.cell 0
  have cKz1 := Kz.cell 1
  have cKz2 := Kz.cell 2
  have fKz0 := Kz.frozen 0
  have fKz1 := Kz.frozen 1
  have fKz2 := Kz.frozen 2
  have lKv := Kv.lt
  have cKv0 := Kv.cell 0
  have cKv1 := Kv.cell 1
  have cKv2 := Kv.cell 2
  have cKv3 := Kv.cell 3
  have cKv4 := Kv.cell 4
  have cKv5 := Kv.cell 5
  have cKv6 := Kv.cell 6
  have cKv7 := Kv.cell 7
  have cKv8 := Kv.cell 8
  have cKv9 := Kv.cell 9
  have cKv10 := Kv.cell 10
  simp only [List.getElem?_toArray, List.getElem?_cons_succ, List.getElem?_cons_zero] at cKp0 cKp1 cKp2 cKr0 cKr1 cKr2 cKz0 cKz1 cKz2 cKv0 cKv1 cKv2 cKv3 cKv4 cKv5 cKv6 cKv7 cKv8 cKv9 cKv10
  have HKz := Lib.hid Kz
  have HBW := Lib.hid hbw
  clear Kz hbw
  go_wp2_with fail
  have K := ((HKz.out.set_ 0 (.int .i64 0)).set_ 1 (.int .i64 0)).set_ 2 (.slice none 0 0)
  refine ret_struct2 (g := w.heap.size + 1 + 1 + 1 + 1) (t := 46) (cs := #[.int .i64 0, .int .i64 0, .slice none 0 0]) rfl rfl ?_ Try.underlying46 rfl rfl rfl ?_
  · first | exact K | exact K.alloc _
  · exact ⟨rfl, by (repeat' (first | refine bset ?_ (by first | omega | (simp <;> omega)) _ | refine balloc ?_ _ | refine Below.drew ?_ | refine below_drewN ?_ _ | exact HBW.out | exact Below.refl _ _))⟩
set_option maxRecDepth 100000 in
set_option maxHeartbeats 3200000 in
theorem fair_no1 (pw ph rw_ rh : Int) (n c m d : Nat) (A D : Option Addr) (L : Nat → List (Int × Int)) (w : World) (hr : rg.Rows w D m d L) (HM1 : Hid (∀ W', Calls Try.prog 116 #[.agg #[.int .i64 pw, .int .i64 ph, .slice A n c]] W' fun ed w' => ed = .returned (.bool false) ∧ Below W'.heap.size W' w')) :
    Calls Try.prog 77 #[.agg #[.int .i64 pw, .int .i64 ph, .slice A n c], .agg #[.int .i64 rw_, .int .i64 rh, .slice D m d]] w fun e w' => e = .returned (.bool false) ∧ Below w.heap.size w w' := by
  have HR := Lib.hid hr
  clear hr
  go_enter Try.func77, Try.ntmps77
  go_wp2_with fail
  have hst0 : Below w.heap.size w ((w.alloc (.cells #[.int .i64 pw, .int .i64 ph, .slice A n c] 46)).alloc (.cells #[.int .i64 rw_, .int .i64 rh, .slice D m d] 51)) := by (repeat' (first | exact Below.refl _ _ | exact Below.refl _ _ | refine balloc ?_ _ | refine Below.drew ?_ | refine below_drewN ?_ _ | refine bset ?_ (by first | omega | (simp <;> omega)) _))
  refine (HM1.out _).mono ?_
  rintro e_ w1 ⟨rfl, hb⟩
  have hst : Below w.heap.size w w1 := btrans hst0 hb
  have Kp := ((Blk.new w 46 #[.int .i64 pw, .int .i64 ph, .slice A n c]).alloc (.cells #[.int .i64 rw_, .int .i64 rh, .slice D m d] 51))
  have Kr := (Blk.new (w.alloc (.cells #[.int .i64 pw, .int .i64 ph, .slice A n c] 46)) 51 #[.int .i64 rw_, .int .i64 rh, .slice D m d])
  have hz_Kr : (w.alloc (.cells #[.int .i64 pw, .int .i64 ph, .slice A n c] 46)).heap.size = w.heap.size + 1 := by simp
  rw [hz_Kr] at Kr
  clear hz_Kr
  replace Kp := Kp.below hb Kp.lt
  replace Kr := Kr.below hb Kr.lt
  have hbw : Below w.heap.size w w1 := hst
  replace HR := Lib.hid (HR.out.below hst)
  clear hst hst0 hb 
  have lKp := Kp.lt
  have cKp0 := Kp.cell 0
  have cKp1 := Kp.cell 1
  have cKp2 := Kp.cell 2
  have lKr := Kr.lt
  have cKr0 := Kr.cell 0
  have cKr1 := Kr.cell 1
  have cKr2 := Kr.cell 2
  simp only [List.getElem?_toArray, List.getElem?_cons_succ, List.getElem?_cons_zero] at cKp0 cKp1 cKp2 cKr0 cKr1 cKr2
  go_wp2_with fail
  go_ret
  exact ⟨by first | rfl | (congr 2; simp; omega) | (simp; omega), by (repeat' (first | refine bset ?_ (by first | omega | (simp <;> omega)) _ | refine balloc ?_ _ | refine Below.drew ?_ | refine below_drewN ?_ _ | exact hbw | exact Below.refl _ _))⟩
set_option maxRecDepth 100000 in
set_option maxHeartbeats 3200000 in
theorem fair_no2 (pw ph rw_ rh : Int) (n c m d : Nat) (A D : Option Addr) (L : Nat → List (Int × Int)) (w : World) (hr : rg.Rows w D m d L) (HM1 : Hid (∀ W', Calls Try.prog 116 #[.agg #[.int .i64 pw, .int .i64 ph, .slice A n c]] W' fun ed w' => ed = .returned (.bool true) ∧ Below W'.heap.size W' w')) (HM2 : Hid (∀ W', rg.Rows W' D m d L → Calls Try.prog 117 #[.agg #[.int .i64 rw_, .int .i64 rh, .slice D m d]] W' fun ed w' => ed = .returned (.bool false) ∧ Below W'.heap.size W' w')) :
    Calls Try.prog 77 #[.agg #[.int .i64 pw, .int .i64 ph, .slice A n c], .agg #[.int .i64 rw_, .int .i64 rh, .slice D m d]] w fun e w' => e = .returned (.bool false) ∧ Below w.heap.size w w' := by
  have HR := Lib.hid hr
  clear hr
  go_enter Try.func77, Try.ntmps77
  go_wp2_with fail
  have hst0 : Below w.heap.size w ((w.alloc (.cells #[.int .i64 pw, .int .i64 ph, .slice A n c] 46)).alloc (.cells #[.int .i64 rw_, .int .i64 rh, .slice D m d] 51)) := by (repeat' (first | exact Below.refl _ _ | exact Below.refl _ _ | refine balloc ?_ _ | refine Below.drew ?_ | refine below_drewN ?_ _ | refine bset ?_ (by first | omega | (simp <;> omega)) _))
  refine (HM1.out _).mono ?_
  rintro e_ w1 ⟨rfl, hb⟩
  have hst : Below w.heap.size w w1 := btrans hst0 hb
  have Kp := ((Blk.new w 46 #[.int .i64 pw, .int .i64 ph, .slice A n c]).alloc (.cells #[.int .i64 rw_, .int .i64 rh, .slice D m d] 51))
  have Kr := (Blk.new (w.alloc (.cells #[.int .i64 pw, .int .i64 ph, .slice A n c] 46)) 51 #[.int .i64 rw_, .int .i64 rh, .slice D m d])
  have hz_Kr : (w.alloc (.cells #[.int .i64 pw, .int .i64 ph, .slice A n c] 46)).heap.size = w.heap.size + 1 := by simp
  rw [hz_Kr] at Kr
  clear hz_Kr
  replace Kp := Kp.below hb Kp.lt
  replace Kr := Kr.below hb Kr.lt
  have hbw : Below w.heap.size w w1 := hst
  replace HR := Lib.hid (HR.out.below hst)
  clear hst hst0 hb 
  have lKp := Kp.lt
  have cKp0 := Kp.cell 0
  have cKp1 := Kp.cell 1
  have cKp2 := Kp.cell 2
  have lKr := Kr.lt
  have cKr0 := Kr.cell 0
  have cKr1 := Kr.cell 1
  have cKr2 := Kr.cell 2
  simp only [List.getElem?_toArray, List.getElem?_cons_succ, List.getElem?_cons_zero] at cKp0 cKp1 cKp2 cKr0 cKr1 cKr2
  go_wp2_with fail
  have hst0 : Below w1.heap.size w1 w1 := by (repeat' (first | exact Below.refl _ _ | exact Below.refl _ _ | refine balloc ?_ _ | refine Below.drew ?_ | refine below_drewN ?_ _ | refine bset ?_ (by first | omega | (simp <;> omega)) _))
  refine (HM2.out _ (HR.out.below hst0)).mono ?_
  rintro e_ w2 ⟨rfl, hb⟩
  have hst : Below w1.heap.size w1 w2 := btrans hst0 hb
  replace Kp := Kp.below hb Kp.lt
  replace Kr := Kr.below hb Kr.lt
  replace hbw : Below w.heap.size w w2 := btrans hbw hst
  replace HR := Lib.hid (HR.out.below hst)
  clear hst hst0 hb lKp cKp0 cKp1 cKp2 lKr cKr0 cKr1 cKr2
  have lKp := Kp.lt
  have cKp0 := Kp.cell 0
  have cKp1 := Kp.cell 1
  have cKp2 := Kp.cell 2
  have lKr := Kr.lt
  have cKr0 := Kr.cell 0
  have cKr1 := Kr.cell 1
  have cKr2 := Kr.cell 2
  simp only [List.getElem?_toArray, List.getElem?_cons_succ, List.getElem?_cons_zero] at cKp0 cKp1 cKp2 cKr0 cKr1 cKr2
  go_wp2_with fail
  go_ret
  exact ⟨by first | rfl | (congr 2; simp; omega) | (simp; omega), by (repeat' (first | refine bset ?_ (by first | omega | (simp <;> omega)) _ | refine balloc ?_ _ | refine Below.drew ?_ | refine below_drewN ?_ _ | exact hbw | exact Below.refl _ _))⟩
set_option maxRecDepth 100000 in
set_option maxHeartbeats 3200000 in
theorem fair_no3 (pw ph rw_ rh : Int) (n c m d : Nat) (A D : Option Addr) (L : Nat → List (Int × Int)) (w : World) (hr : rg.Rows w D m d L) (HM1 : Hid (∀ W', Calls Try.prog 116 #[.agg #[.int .i64 pw, .int .i64 ph, .slice A n c]] W' fun ed w' => ed = .returned (.bool true) ∧ Below W'.heap.size W' w')) (HM2 : Hid (∀ W', rg.Rows W' D m d L → Calls Try.prog 117 #[.agg #[.int .i64 rw_, .int .i64 rh, .slice D m d]] W' fun ed w' => ed = .returned (.bool true) ∧ Below W'.heap.size W' w')) (hne : ¬ pw = rw_) :
    Calls Try.prog 77 #[.agg #[.int .i64 pw, .int .i64 ph, .slice A n c], .agg #[.int .i64 rw_, .int .i64 rh, .slice D m d]] w fun e w' => e = .returned (.bool false) ∧ Below w.heap.size w w' := by
  have HR := Lib.hid hr
  clear hr
  go_enter Try.func77, Try.ntmps77
  go_wp2_with fail
  have hst0 : Below w.heap.size w ((w.alloc (.cells #[.int .i64 pw, .int .i64 ph, .slice A n c] 46)).alloc (.cells #[.int .i64 rw_, .int .i64 rh, .slice D m d] 51)) := by (repeat' (first | exact Below.refl _ _ | exact Below.refl _ _ | refine balloc ?_ _ | refine Below.drew ?_ | refine below_drewN ?_ _ | refine bset ?_ (by first | omega | (simp <;> omega)) _))
  refine (HM1.out _).mono ?_
  rintro e_ w1 ⟨rfl, hb⟩
  have hst : Below w.heap.size w w1 := btrans hst0 hb
  have Kp := ((Blk.new w 46 #[.int .i64 pw, .int .i64 ph, .slice A n c]).alloc (.cells #[.int .i64 rw_, .int .i64 rh, .slice D m d] 51))
  have Kr := (Blk.new (w.alloc (.cells #[.int .i64 pw, .int .i64 ph, .slice A n c] 46)) 51 #[.int .i64 rw_, .int .i64 rh, .slice D m d])
  have hz_Kr : (w.alloc (.cells #[.int .i64 pw, .int .i64 ph, .slice A n c] 46)).heap.size = w.heap.size + 1 := by simp
  rw [hz_Kr] at Kr
  clear hz_Kr
  replace Kp := Kp.below hb Kp.lt
  replace Kr := Kr.below hb Kr.lt
  have hbw : Below w.heap.size w w1 := hst
  replace HR := Lib.hid (HR.out.below hst)
  clear hst hst0 hb 
  have lKp := Kp.lt
  have cKp0 := Kp.cell 0
  have cKp1 := Kp.cell 1
  have cKp2 := Kp.cell 2
  have lKr := Kr.lt
  have cKr0 := Kr.cell 0
  have cKr1 := Kr.cell 1
  have cKr2 := Kr.cell 2
  simp only [List.getElem?_toArray, List.getElem?_cons_succ, List.getElem?_cons_zero] at cKp0 cKp1 cKp2 cKr0 cKr1 cKr2
  go_wp2_with fail
  have hst0 : Below w1.heap.size w1 w1 := by (repeat' (first | exact Below.refl _ _ | exact Below.refl _ _ | refine balloc ?_ _ | refine Below.drew ?_ | refine below_drewN ?_ _ | refine bset ?_ (by first | omega | (simp <;> omega)) _))
  refine (HM2.out _ (HR.out.below hst0)).mono ?_
  rintro e_ w2 ⟨rfl, hb⟩
  have hst : Below w1.heap.size w1 w2 := btrans hst0 hb
  replace Kp := Kp.below hb Kp.lt
  replace Kr := Kr.below hb Kr.lt
  replace hbw : Below w.heap.size w w2 := btrans hbw hst
  replace HR := Lib.hid (HR.out.below hst)
  clear hst hst0 hb lKp cKp0 cKp1 cKp2 lKr cKr0 cKr1 cKr2
  have lKp := Kp.lt
  have cKp0 := Kp.cell 0
  have cKp1 := Kp.cell 1
  have cKp2 := Kp.cell 2
  have lKr := Kr.lt
  have cKr0 := Kr.cell 0
  have cKr1 := Kr.cell 1
  have cKr2 := Kr.cell 2
  simp only [List.getElem?_toArray, List.getElem?_cons_succ, List.getElem?_cons_zero] at cKp0 cKp1 cKp2 cKr0 cKr1 cKr2
  go_wp2_with fail
  go_ret
  exact ⟨by first | rfl | (congr 2; simp; omega) | (simp; omega), by (repeat' (first | refine bset ?_ (by first | omega | (simp <;> omega)) _ | refine balloc ?_ _ | refine Below.drew ?_ | refine below_drewN ?_ _ | exact hbw | exact Below.refl _ _))⟩
set_option maxRecDepth 100000 in
set_option maxHeartbeats 3200000 in
theorem fair_no4 (pw ph rw_ rh : Int) (n c m d : Nat) (A D : Option Addr) (L : Nat → List (Int × Int)) (w : World) (hr : rg.Rows w D m d L) (HM1 : Hid (∀ W', Calls Try.prog 116 #[.agg #[.int .i64 pw, .int .i64 ph, .slice A n c]] W' fun ed w' => ed = .returned (.bool true) ∧ Below W'.heap.size W' w')) (HM2 : Hid (∀ W', rg.Rows W' D m d L → Calls Try.prog 117 #[.agg #[.int .i64 rw_, .int .i64 rh, .slice D m d]] W' fun ed w' => ed = .returned (.bool true) ∧ Below W'.heap.size W' w')) (heq : pw = rw_) (hne : ¬ ph = rh) :
    Calls Try.prog 77 #[.agg #[.int .i64 pw, .int .i64 ph, .slice A n c], .agg #[.int .i64 rw_, .int .i64 rh, .slice D m d]] w fun e w' => e = .returned (.bool false) ∧ Below w.heap.size w w' := by
  have HR := Lib.hid hr
  clear hr
  subst heq
  go_enter Try.func77, Try.ntmps77
  go_wp2_with fail
  have hst0 : Below w.heap.size w ((w.alloc (.cells #[.int .i64 pw, .int .i64 ph, .slice A n c] 46)).alloc (.cells #[.int .i64 pw, .int .i64 rh, .slice D m d] 51)) := by (repeat' (first | exact Below.refl _ _ | exact Below.refl _ _ | refine balloc ?_ _ | refine Below.drew ?_ | refine below_drewN ?_ _ | refine bset ?_ (by first | omega | (simp <;> omega)) _))
  refine (HM1.out _).mono ?_
  rintro e_ w1 ⟨rfl, hb⟩
  have hst : Below w.heap.size w w1 := btrans hst0 hb
  have Kp := ((Blk.new w 46 #[.int .i64 pw, .int .i64 ph, .slice A n c]).alloc (.cells #[.int .i64 pw, .int .i64 rh, .slice D m d] 51))
  have Kr := (Blk.new (w.alloc (.cells #[.int .i64 pw, .int .i64 ph, .slice A n c] 46)) 51 #[.int .i64 pw, .int .i64 rh, .slice D m d])
  have hz_Kr : (w.alloc (.cells #[.int .i64 pw, .int .i64 ph, .slice A n c] 46)).heap.size = w.heap.size + 1 := by simp
  rw [hz_Kr] at Kr
  clear hz_Kr
  replace Kp := Kp.below hb Kp.lt
  replace Kr := Kr.below hb Kr.lt
  have hbw : Below w.heap.size w w1 := hst
  replace HR := Lib.hid (HR.out.below hst)
  clear hst hst0 hb 
  have lKp := Kp.lt
  have cKp0 := Kp.cell 0
  have cKp1 := Kp.cell 1
  have cKp2 := Kp.cell 2
  have lKr := Kr.lt
  have cKr0 := Kr.cell 0
  have cKr1 := Kr.cell 1
  have cKr2 := Kr.cell 2
  simp only [List.getElem?_toArray, List.getElem?_cons_succ, List.getElem?_cons_zero] at cKp0 cKp1 cKp2 cKr0 cKr1 cKr2
  go_wp2_with fail
  have hst0 : Below w1.heap.size w1 w1 := by (repeat' (first | exact Below.refl _ _ | exact Below.refl _ _ | refine balloc ?_ _ | refine Below.drew ?_ | refine below_drewN ?_ _ | refine bset ?_ (by first | omega | (simp <;> omega)) _))
  refine (HM2.out _ (HR.out.below hst0)).mono ?_
  rintro e_ w2 ⟨rfl, hb⟩
  have hst : Below w1.heap.size w1 w2 := btrans hst0 hb
  replace Kp := Kp.below hb Kp.lt
  replace Kr := Kr.below hb Kr.lt
  replace hbw : Below w.heap.size w w2 := btrans hbw hst
  replace HR := Lib.hid (HR.out.below hst)
  clear hst hst0 hb lKp cKp0 cKp1 cKp2 lKr cKr0 cKr1 cKr2
  have lKp := Kp.lt
  have cKp0 := Kp.cell 0
  have cKp1 := Kp.cell 1
  have cKp2 := Kp.cell 2
  have lKr := Kr.lt
  have cKr0 := Kr.cell 0
  have cKr1 := Kr.cell 1
  have cKr2 := Kr.cell 2
  simp only [List.getElem?_toArray, List.getElem?_cons_succ, List.getElem?_cons_zero] at cKp0 cKp1 cKp2 cKr0 cKr1 cKr2
  go_wp2_with fail
  go_ret
  exact ⟨by first | rfl | (congr 2; simp; omega) | (simp; omega), by (repeat' (first | refine bset ?_ (by first | omega | (simp <;> omega)) _ | refine balloc ?_ _ | refine Below.drew ?_ | refine below_drewN ?_ _ | exact hbw | exact Below.refl _ _))⟩
set_option maxRecDepth 100000 in
set_option maxHeartbeats 3200000 in
theorem rpaint_no1 (IW IH IB ma mb mc md me mf : Int) (s : ByteArray) (pw ph rw_ rh : Int) (n c m d : Nat) (A D : Option Addr) (L : Nat → List (Int × Int)) (w : World) (hr : rg.Rows w D m d L) (H0 : Hid (∀ W', Calls Try.prog 15 #[.agg #[.int .i64 IW, .int .i64 IH, .int .i64 IB, .string s]] W' fun ed w' => ed = .returned (.bool false) ∧ Below W'.heap.size W' w')) :
    Calls Try.prog 40 #[.agg #[.int .i64 pw, .int .i64 ph, .slice A n c], .agg #[.int .i64 IW, .int .i64 IH, .int .i64 IB, .string s], .agg #[.int .i64 ma, .int .i64 mb, .int .i64 mc, .int .i64 md, .int .i64 me, .int .i64 mf], .agg #[.int .i64 rw_, .int .i64 rh, .slice D m d]] w fun e w' => e = .returned (.tuple #[.agg #[.int .i64 0, .int .i64 0, .slice none 0 0], .int .i64 1]) ∧ Below w.heap.size w w' := by
  have HR := Lib.hid hr
  clear hr
  go_enter Try.func40, Try.ntmps40
  go_wp2_with fail
  have hst0 : Below w.heap.size w (((((w.alloc (.cells #[.int .i64 pw, .int .i64 ph, .slice A n c] 46)).alloc (.cells #[.int .i64 IW, .int .i64 IH, .int .i64 IB, .string s] 23)).alloc (.cells #[.int .i64 ma, .int .i64 mb, .int .i64 mc, .int .i64 md, .int .i64 me, .int .i64 mf] 25)).alloc (.cells #[.int .i64 rw_, .int .i64 rh, .slice D m d] 51)).alloc (.cells #[.int .i64 0, .int .i64 0, .slice none 0 0] 46)) := by (repeat' (first | exact Below.refl _ _ | exact Below.refl _ _ | refine balloc ?_ _ | refine Below.drew ?_ | refine below_drewN ?_ _ | refine bset ?_ (by first | omega | (simp <;> omega)) _))
  refine (H0.out _).mono ?_
  rintro e_ w1 ⟨rfl, hb⟩
  have hst : Below w.heap.size w w1 := btrans hst0 hb
  have Kp := (((((Blk.new w 46 #[.int .i64 pw, .int .i64 ph, .slice A n c]).alloc (.cells #[.int .i64 IW, .int .i64 IH, .int .i64 IB, .string s] 23)).alloc (.cells #[.int .i64 ma, .int .i64 mb, .int .i64 mc, .int .i64 md, .int .i64 me, .int .i64 mf] 25)).alloc (.cells #[.int .i64 rw_, .int .i64 rh, .slice D m d] 51)).alloc (.cells #[.int .i64 0, .int .i64 0, .slice none 0 0] 46))
  have Ki := ((((Blk.new (w.alloc (.cells #[.int .i64 pw, .int .i64 ph, .slice A n c] 46)) 23 #[.int .i64 IW, .int .i64 IH, .int .i64 IB, .string s]).alloc (.cells #[.int .i64 ma, .int .i64 mb, .int .i64 mc, .int .i64 md, .int .i64 me, .int .i64 mf] 25)).alloc (.cells #[.int .i64 rw_, .int .i64 rh, .slice D m d] 51)).alloc (.cells #[.int .i64 0, .int .i64 0, .slice none 0 0] 46))
  have hz_Ki : (w.alloc (.cells #[.int .i64 pw, .int .i64 ph, .slice A n c] 46)).heap.size = w.heap.size + 1 := by simp
  rw [hz_Ki] at Ki
  clear hz_Ki
  have Km := (((Blk.new ((w.alloc (.cells #[.int .i64 pw, .int .i64 ph, .slice A n c] 46)).alloc (.cells #[.int .i64 IW, .int .i64 IH, .int .i64 IB, .string s] 23)) 25 #[.int .i64 ma, .int .i64 mb, .int .i64 mc, .int .i64 md, .int .i64 me, .int .i64 mf]).alloc (.cells #[.int .i64 rw_, .int .i64 rh, .slice D m d] 51)).alloc (.cells #[.int .i64 0, .int .i64 0, .slice none 0 0] 46))
  have hz_Km : ((w.alloc (.cells #[.int .i64 pw, .int .i64 ph, .slice A n c] 46)).alloc (.cells #[.int .i64 IW, .int .i64 IH, .int .i64 IB, .string s] 23)).heap.size = w.heap.size + 1 + 1 := by simp
  rw [hz_Km] at Km
  clear hz_Km
  have Kr := ((Blk.new (((w.alloc (.cells #[.int .i64 pw, .int .i64 ph, .slice A n c] 46)).alloc (.cells #[.int .i64 IW, .int .i64 IH, .int .i64 IB, .string s] 23)).alloc (.cells #[.int .i64 ma, .int .i64 mb, .int .i64 mc, .int .i64 md, .int .i64 me, .int .i64 mf] 25)) 51 #[.int .i64 rw_, .int .i64 rh, .slice D m d]).alloc (.cells #[.int .i64 0, .int .i64 0, .slice none 0 0] 46))
  have hz_Kr : (((w.alloc (.cells #[.int .i64 pw, .int .i64 ph, .slice A n c] 46)).alloc (.cells #[.int .i64 IW, .int .i64 IH, .int .i64 IB, .string s] 23)).alloc (.cells #[.int .i64 ma, .int .i64 mb, .int .i64 mc, .int .i64 md, .int .i64 me, .int .i64 mf] 25)).heap.size = w.heap.size + 1 + 1 + 1 := by simp
  rw [hz_Kr] at Kr
  clear hz_Kr
  have Kz := (Blk.new ((((w.alloc (.cells #[.int .i64 pw, .int .i64 ph, .slice A n c] 46)).alloc (.cells #[.int .i64 IW, .int .i64 IH, .int .i64 IB, .string s] 23)).alloc (.cells #[.int .i64 ma, .int .i64 mb, .int .i64 mc, .int .i64 md, .int .i64 me, .int .i64 mf] 25)).alloc (.cells #[.int .i64 rw_, .int .i64 rh, .slice D m d] 51)) 46 #[.int .i64 0, .int .i64 0, .slice none 0 0])
  have hz_Kz : ((((w.alloc (.cells #[.int .i64 pw, .int .i64 ph, .slice A n c] 46)).alloc (.cells #[.int .i64 IW, .int .i64 IH, .int .i64 IB, .string s] 23)).alloc (.cells #[.int .i64 ma, .int .i64 mb, .int .i64 mc, .int .i64 md, .int .i64 me, .int .i64 mf] 25)).alloc (.cells #[.int .i64 rw_, .int .i64 rh, .slice D m d] 51)).heap.size = w.heap.size + 1 + 1 + 1 + 1 := by simp
  rw [hz_Kz] at Kz
  clear hz_Kz
  replace Kp := Kp.below hb Kp.lt
  replace Ki := Ki.below hb Ki.lt
  replace Km := Km.below hb Km.lt
  replace Kr := Kr.below hb Kr.lt
  replace Kz := Kz.below hb Kz.lt
  have hbw : Below w.heap.size w w1 := hst
  replace HR := Lib.hid (HR.out.below hst)
  clear hst hst0 hb 
  have lKp := Kp.lt
  have cKp0 := Kp.cell 0
  have cKp1 := Kp.cell 1
  have cKp2 := Kp.cell 2
  have lKi := Ki.lt
  have cKi0 := Ki.cell 0
  have cKi1 := Ki.cell 1
  have cKi2 := Ki.cell 2
  have cKi3 := Ki.cell 3
  have lKm := Km.lt
  have cKm0 := Km.cell 0
  have cKm1 := Km.cell 1
  have cKm2 := Km.cell 2
  have cKm3 := Km.cell 3
  have cKm4 := Km.cell 4
  have cKm5 := Km.cell 5
  have lKr := Kr.lt
  have cKr0 := Kr.cell 0
  have cKr1 := Kr.cell 1
  have cKr2 := Kr.cell 2
  have lKz := Kz.lt
  have cKz0 := Kz.cell 0
  have cKz1 := Kz.cell 1
  have cKz2 := Kz.cell 2
  have fKz0 := Kz.frozen 0
  have fKz1 := Kz.frozen 1
  have fKz2 := Kz.frozen 2
  simp only [List.getElem?_toArray, List.getElem?_cons_succ, List.getElem?_cons_zero] at cKp0 cKp1 cKp2 cKi0 cKi1 cKi2 cKi3 cKm0 cKm1 cKm2 cKm3 cKm4 cKm5 cKr0 cKr1 cKr2 cKz0 cKz1 cKz2
  have HKz := Lib.hid Kz
  have HBW := Lib.hid hbw
  clear Kz hbw
  go_wp2_with fail
  have K := ((HKz.out.set_ 0 (.int .i64 0)).set_ 1 (.int .i64 0)).set_ 2 (.slice none 0 0)
  refine ret_struct2 (g := w.heap.size + 1 + 1 + 1 + 1) (t := 46) (cs := #[.int .i64 0, .int .i64 0, .slice none 0 0]) rfl rfl ?_ Try.underlying46 rfl rfl rfl ?_
  · first | exact K | exact K.alloc _
  · exact ⟨rfl, by (repeat' (first | refine bset ?_ (by first | omega | (simp <;> omega)) _ | refine balloc ?_ _ | refine Below.drew ?_ | refine below_drewN ?_ _ | exact HBW.out | exact Below.refl _ _))⟩
set_option maxRecDepth 100000 in
set_option maxHeartbeats 3200000 in
theorem rpaint_no2 (IW IH IB ma mb mc md me mf : Int) (s : ByteArray) (pw ph rw_ rh : Int) (n c m d : Nat) (A D : Option Addr) (L : Nat → List (Int × Int)) (w : World) (hr : rg.Rows w D m d L) (H0 : Hid (∀ W', Calls Try.prog 15 #[.agg #[.int .i64 IW, .int .i64 IH, .int .i64 IB, .string s]] W' fun ed w' => ed = .returned (.bool true) ∧ Below W'.heap.size W' w')) (H1 : Hid (∀ W', Calls Try.prog 60 #[.agg #[.int .i64 ma, .int .i64 mb, .int .i64 mc, .int .i64 md, .int .i64 me, .int .i64 mf]] W' fun ed w' => ed = .returned (.bool false) ∧ Below W'.heap.size W' w')) :
    Calls Try.prog 40 #[.agg #[.int .i64 pw, .int .i64 ph, .slice A n c], .agg #[.int .i64 IW, .int .i64 IH, .int .i64 IB, .string s], .agg #[.int .i64 ma, .int .i64 mb, .int .i64 mc, .int .i64 md, .int .i64 me, .int .i64 mf], .agg #[.int .i64 rw_, .int .i64 rh, .slice D m d]] w fun e w' => e = .returned (.tuple #[.agg #[.int .i64 0, .int .i64 0, .slice none 0 0], .int .i64 1]) ∧ Below w.heap.size w w' := by
  have HR := Lib.hid hr
  clear hr
  go_enter Try.func40, Try.ntmps40
  go_wp2_with fail
  have hst0 : Below w.heap.size w (((((w.alloc (.cells #[.int .i64 pw, .int .i64 ph, .slice A n c] 46)).alloc (.cells #[.int .i64 IW, .int .i64 IH, .int .i64 IB, .string s] 23)).alloc (.cells #[.int .i64 ma, .int .i64 mb, .int .i64 mc, .int .i64 md, .int .i64 me, .int .i64 mf] 25)).alloc (.cells #[.int .i64 rw_, .int .i64 rh, .slice D m d] 51)).alloc (.cells #[.int .i64 0, .int .i64 0, .slice none 0 0] 46)) := by (repeat' (first | exact Below.refl _ _ | exact Below.refl _ _ | refine balloc ?_ _ | refine Below.drew ?_ | refine below_drewN ?_ _ | refine bset ?_ (by first | omega | (simp <;> omega)) _))
  refine (H0.out _).mono ?_
  rintro e_ w1 ⟨rfl, hb⟩
  have hst : Below w.heap.size w w1 := btrans hst0 hb
  have Kp := (((((Blk.new w 46 #[.int .i64 pw, .int .i64 ph, .slice A n c]).alloc (.cells #[.int .i64 IW, .int .i64 IH, .int .i64 IB, .string s] 23)).alloc (.cells #[.int .i64 ma, .int .i64 mb, .int .i64 mc, .int .i64 md, .int .i64 me, .int .i64 mf] 25)).alloc (.cells #[.int .i64 rw_, .int .i64 rh, .slice D m d] 51)).alloc (.cells #[.int .i64 0, .int .i64 0, .slice none 0 0] 46))
  have Ki := ((((Blk.new (w.alloc (.cells #[.int .i64 pw, .int .i64 ph, .slice A n c] 46)) 23 #[.int .i64 IW, .int .i64 IH, .int .i64 IB, .string s]).alloc (.cells #[.int .i64 ma, .int .i64 mb, .int .i64 mc, .int .i64 md, .int .i64 me, .int .i64 mf] 25)).alloc (.cells #[.int .i64 rw_, .int .i64 rh, .slice D m d] 51)).alloc (.cells #[.int .i64 0, .int .i64 0, .slice none 0 0] 46))
  have hz_Ki : (w.alloc (.cells #[.int .i64 pw, .int .i64 ph, .slice A n c] 46)).heap.size = w.heap.size + 1 := by simp
  rw [hz_Ki] at Ki
  clear hz_Ki
  have Km := (((Blk.new ((w.alloc (.cells #[.int .i64 pw, .int .i64 ph, .slice A n c] 46)).alloc (.cells #[.int .i64 IW, .int .i64 IH, .int .i64 IB, .string s] 23)) 25 #[.int .i64 ma, .int .i64 mb, .int .i64 mc, .int .i64 md, .int .i64 me, .int .i64 mf]).alloc (.cells #[.int .i64 rw_, .int .i64 rh, .slice D m d] 51)).alloc (.cells #[.int .i64 0, .int .i64 0, .slice none 0 0] 46))
  have hz_Km : ((w.alloc (.cells #[.int .i64 pw, .int .i64 ph, .slice A n c] 46)).alloc (.cells #[.int .i64 IW, .int .i64 IH, .int .i64 IB, .string s] 23)).heap.size = w.heap.size + 1 + 1 := by simp
  rw [hz_Km] at Km
  clear hz_Km
  have Kr := ((Blk.new (((w.alloc (.cells #[.int .i64 pw, .int .i64 ph, .slice A n c] 46)).alloc (.cells #[.int .i64 IW, .int .i64 IH, .int .i64 IB, .string s] 23)).alloc (.cells #[.int .i64 ma, .int .i64 mb, .int .i64 mc, .int .i64 md, .int .i64 me, .int .i64 mf] 25)) 51 #[.int .i64 rw_, .int .i64 rh, .slice D m d]).alloc (.cells #[.int .i64 0, .int .i64 0, .slice none 0 0] 46))
  have hz_Kr : (((w.alloc (.cells #[.int .i64 pw, .int .i64 ph, .slice A n c] 46)).alloc (.cells #[.int .i64 IW, .int .i64 IH, .int .i64 IB, .string s] 23)).alloc (.cells #[.int .i64 ma, .int .i64 mb, .int .i64 mc, .int .i64 md, .int .i64 me, .int .i64 mf] 25)).heap.size = w.heap.size + 1 + 1 + 1 := by simp
  rw [hz_Kr] at Kr
  clear hz_Kr
  have Kz := (Blk.new ((((w.alloc (.cells #[.int .i64 pw, .int .i64 ph, .slice A n c] 46)).alloc (.cells #[.int .i64 IW, .int .i64 IH, .int .i64 IB, .string s] 23)).alloc (.cells #[.int .i64 ma, .int .i64 mb, .int .i64 mc, .int .i64 md, .int .i64 me, .int .i64 mf] 25)).alloc (.cells #[.int .i64 rw_, .int .i64 rh, .slice D m d] 51)) 46 #[.int .i64 0, .int .i64 0, .slice none 0 0])
  have hz_Kz : ((((w.alloc (.cells #[.int .i64 pw, .int .i64 ph, .slice A n c] 46)).alloc (.cells #[.int .i64 IW, .int .i64 IH, .int .i64 IB, .string s] 23)).alloc (.cells #[.int .i64 ma, .int .i64 mb, .int .i64 mc, .int .i64 md, .int .i64 me, .int .i64 mf] 25)).alloc (.cells #[.int .i64 rw_, .int .i64 rh, .slice D m d] 51)).heap.size = w.heap.size + 1 + 1 + 1 + 1 := by simp
  rw [hz_Kz] at Kz
  clear hz_Kz
  replace Kp := Kp.below hb Kp.lt
  replace Ki := Ki.below hb Ki.lt
  replace Km := Km.below hb Km.lt
  replace Kr := Kr.below hb Kr.lt
  replace Kz := Kz.below hb Kz.lt
  have hbw : Below w.heap.size w w1 := hst
  replace HR := Lib.hid (HR.out.below hst)
  clear hst hst0 hb 
  have lKp := Kp.lt
  have cKp0 := Kp.cell 0
  have cKp1 := Kp.cell 1
  have cKp2 := Kp.cell 2
  have lKi := Ki.lt
  have cKi0 := Ki.cell 0
  have cKi1 := Ki.cell 1
  have cKi2 := Ki.cell 2
  have cKi3 := Ki.cell 3
  have lKm := Km.lt
  have cKm0 := Km.cell 0
  have cKm1 := Km.cell 1
  have cKm2 := Km.cell 2
  have cKm3 := Km.cell 3
  have cKm4 := Km.cell 4
  have cKm5 := Km.cell 5
  have lKr := Kr.lt
  have cKr0 := Kr.cell 0
  have cKr1 := Kr.cell 1
  have cKr2 := Kr.cell 2
  have lKz := Kz.lt
  have cKz0 := Kz.cell 0
  have cKz1 := Kz.cell 1
  have cKz2 := Kz.cell 2
  have fKz0 := Kz.frozen 0
  have fKz1 := Kz.frozen 1
  have fKz2 := Kz.frozen 2
  simp only [List.getElem?_toArray, List.getElem?_cons_succ, List.getElem?_cons_zero] at cKp0 cKp1 cKp2 cKi0 cKi1 cKi2 cKi3 cKm0 cKm1 cKm2 cKm3 cKm4 cKm5 cKr0 cKr1 cKr2 cKz0 cKz1 cKz2
  go_wp2_with fail
  have hst0 : Below w1.heap.size w1 w1 := by (repeat' (first | exact Below.refl _ _ | exact Below.refl _ _ | refine balloc ?_ _ | refine Below.drew ?_ | refine below_drewN ?_ _ | refine bset ?_ (by first | omega | (simp <;> omega)) _))
  refine (H1.out _).mono ?_
  rintro e_ w2 ⟨rfl, hb⟩
  have hst : Below w1.heap.size w1 w2 := btrans hst0 hb
  replace Kp := Kp.below hb Kp.lt
  replace Ki := Ki.below hb Ki.lt
  replace Km := Km.below hb Km.lt
  replace Kr := Kr.below hb Kr.lt
  replace Kz := Kz.below hb Kz.lt
  replace hbw : Below w.heap.size w w2 := btrans hbw hst
  replace HR := Lib.hid (HR.out.below hst)
  clear hst hst0 hb lKp cKp0 cKp1 cKp2 lKi cKi0 cKi1 cKi2 cKi3 lKm cKm0 cKm1 cKm2 cKm3 cKm4 cKm5 lKr cKr0 cKr1 cKr2 lKz cKz0 cKz1 cKz2 fKz0 fKz1 fKz2
  have lKp := Kp.lt
  have cKp0 := Kp.cell 0
  have cKp1 := Kp.cell 1
  have cKp2 := Kp.cell 2
  have lKi := Ki.lt
  have cKi0 := Ki.cell 0
  have cKi1 := Ki.cell 1
  have cKi2 := Ki.cell 2
  have cKi3 := Ki.cell 3
  have lKm := Km.lt
  have cKm0 := Km.cell 0
  have cKm1 := Km.cell 1
  have cKm2 := Km.cell 2
  have cKm3 := Km.cell 3
  have cKm4 := Km.cell 4
  have cKm5 := Km.cell 5
  have lKr := Kr.lt
  have cKr0 := Kr.cell 0
  have cKr1 := Kr.cell 1
  have cKr2 := Kr.cell 2
  have lKz := Kz.lt
  have cKz0 := Kz.cell 0
  have cKz1 := Kz.cell 1
  have cKz2 := Kz.cell 2
  have fKz0 := Kz.frozen 0
  have fKz1 := Kz.frozen 1
  have fKz2 := Kz.frozen 2
  simp only [List.getElem?_toArray, List.getElem?_cons_succ, List.getElem?_cons_zero] at cKp0 cKp1 cKp2 cKi0 cKi1 cKi2 cKi3 cKm0 cKm1 cKm2 cKm3 cKm4 cKm5 cKr0 cKr1 cKr2 cKz0 cKz1 cKz2
  have HKz := Lib.hid Kz
  have HBW := Lib.hid hbw
  clear Kz hbw
  go_wp2_with fail
  have K := ((HKz.out.set_ 0 (.int .i64 0)).set_ 1 (.int .i64 0)).set_ 2 (.slice none 0 0)
  refine ret_struct2 (g := w.heap.size + 1 + 1 + 1 + 1) (t := 46) (cs := #[.int .i64 0, .int .i64 0, .slice none 0 0]) rfl rfl ?_ Try.underlying46 rfl rfl rfl ?_
  · first | exact K | exact K.alloc _
  · exact ⟨rfl, by (repeat' (first | refine bset ?_ (by first | omega | (simp <;> omega)) _ | refine balloc ?_ _ | refine Below.drew ?_ | refine below_drewN ?_ _ | exact HBW.out | exact Below.refl _ _))⟩
set_option maxRecDepth 100000 in
set_option maxHeartbeats 3200000 in
theorem rpaint_no3 (IW IH IB ma mb mc md me mf : Int) (s : ByteArray) (pw ph rw_ rh : Int) (n c m d : Nat) (A D : Option Addr) (L : Nat → List (Int × Int)) (w : World) (hr : rg.Rows w D m d L) (H0 : Hid (∀ W', Calls Try.prog 15 #[.agg #[.int .i64 IW, .int .i64 IH, .int .i64 IB, .string s]] W' fun ed w' => ed = .returned (.bool true) ∧ Below W'.heap.size W' w')) (H1 : Hid (∀ W', Calls Try.prog 60 #[.agg #[.int .i64 ma, .int .i64 mb, .int .i64 mc, .int .i64 md, .int .i64 me, .int .i64 mf]] W' fun ed w' => ed = .returned (.bool true) ∧ Below W'.heap.size W' w')) (H2 : Hid (∀ W', rg.Rows W' D m d L → Calls Try.prog 77 #[.agg #[.int .i64 pw, .int .i64 ph, .slice A n c], .agg #[.int .i64 rw_, .int .i64 rh, .slice D m d]] W' fun ed w' => ed = .returned (.bool false) ∧ Below W'.heap.size W' w')) :
    Calls Try.prog 40 #[.agg #[.int .i64 pw, .int .i64 ph, .slice A n c], .agg #[.int .i64 IW, .int .i64 IH, .int .i64 IB, .string s], .agg #[.int .i64 ma, .int .i64 mb, .int .i64 mc, .int .i64 md, .int .i64 me, .int .i64 mf], .agg #[.int .i64 rw_, .int .i64 rh, .slice D m d]] w fun e w' => e = .returned (.tuple #[.agg #[.int .i64 0, .int .i64 0, .slice none 0 0], .int .i64 1]) ∧ Below w.heap.size w w' := by
  have HR := Lib.hid hr
  clear hr
  go_enter Try.func40, Try.ntmps40
  go_wp2_with fail
  have hst0 : Below w.heap.size w (((((w.alloc (.cells #[.int .i64 pw, .int .i64 ph, .slice A n c] 46)).alloc (.cells #[.int .i64 IW, .int .i64 IH, .int .i64 IB, .string s] 23)).alloc (.cells #[.int .i64 ma, .int .i64 mb, .int .i64 mc, .int .i64 md, .int .i64 me, .int .i64 mf] 25)).alloc (.cells #[.int .i64 rw_, .int .i64 rh, .slice D m d] 51)).alloc (.cells #[.int .i64 0, .int .i64 0, .slice none 0 0] 46)) := by (repeat' (first | exact Below.refl _ _ | exact Below.refl _ _ | refine balloc ?_ _ | refine Below.drew ?_ | refine below_drewN ?_ _ | refine bset ?_ (by first | omega | (simp <;> omega)) _))
  refine (H0.out _).mono ?_
  rintro e_ w1 ⟨rfl, hb⟩
  have hst : Below w.heap.size w w1 := btrans hst0 hb
  have Kp := (((((Blk.new w 46 #[.int .i64 pw, .int .i64 ph, .slice A n c]).alloc (.cells #[.int .i64 IW, .int .i64 IH, .int .i64 IB, .string s] 23)).alloc (.cells #[.int .i64 ma, .int .i64 mb, .int .i64 mc, .int .i64 md, .int .i64 me, .int .i64 mf] 25)).alloc (.cells #[.int .i64 rw_, .int .i64 rh, .slice D m d] 51)).alloc (.cells #[.int .i64 0, .int .i64 0, .slice none 0 0] 46))
  have Ki := ((((Blk.new (w.alloc (.cells #[.int .i64 pw, .int .i64 ph, .slice A n c] 46)) 23 #[.int .i64 IW, .int .i64 IH, .int .i64 IB, .string s]).alloc (.cells #[.int .i64 ma, .int .i64 mb, .int .i64 mc, .int .i64 md, .int .i64 me, .int .i64 mf] 25)).alloc (.cells #[.int .i64 rw_, .int .i64 rh, .slice D m d] 51)).alloc (.cells #[.int .i64 0, .int .i64 0, .slice none 0 0] 46))
  have hz_Ki : (w.alloc (.cells #[.int .i64 pw, .int .i64 ph, .slice A n c] 46)).heap.size = w.heap.size + 1 := by simp
  rw [hz_Ki] at Ki
  clear hz_Ki
  have Km := (((Blk.new ((w.alloc (.cells #[.int .i64 pw, .int .i64 ph, .slice A n c] 46)).alloc (.cells #[.int .i64 IW, .int .i64 IH, .int .i64 IB, .string s] 23)) 25 #[.int .i64 ma, .int .i64 mb, .int .i64 mc, .int .i64 md, .int .i64 me, .int .i64 mf]).alloc (.cells #[.int .i64 rw_, .int .i64 rh, .slice D m d] 51)).alloc (.cells #[.int .i64 0, .int .i64 0, .slice none 0 0] 46))
  have hz_Km : ((w.alloc (.cells #[.int .i64 pw, .int .i64 ph, .slice A n c] 46)).alloc (.cells #[.int .i64 IW, .int .i64 IH, .int .i64 IB, .string s] 23)).heap.size = w.heap.size + 1 + 1 := by simp
  rw [hz_Km] at Km
  clear hz_Km
  have Kr := ((Blk.new (((w.alloc (.cells #[.int .i64 pw, .int .i64 ph, .slice A n c] 46)).alloc (.cells #[.int .i64 IW, .int .i64 IH, .int .i64 IB, .string s] 23)).alloc (.cells #[.int .i64 ma, .int .i64 mb, .int .i64 mc, .int .i64 md, .int .i64 me, .int .i64 mf] 25)) 51 #[.int .i64 rw_, .int .i64 rh, .slice D m d]).alloc (.cells #[.int .i64 0, .int .i64 0, .slice none 0 0] 46))
  have hz_Kr : (((w.alloc (.cells #[.int .i64 pw, .int .i64 ph, .slice A n c] 46)).alloc (.cells #[.int .i64 IW, .int .i64 IH, .int .i64 IB, .string s] 23)).alloc (.cells #[.int .i64 ma, .int .i64 mb, .int .i64 mc, .int .i64 md, .int .i64 me, .int .i64 mf] 25)).heap.size = w.heap.size + 1 + 1 + 1 := by simp
  rw [hz_Kr] at Kr
  clear hz_Kr
  have Kz := (Blk.new ((((w.alloc (.cells #[.int .i64 pw, .int .i64 ph, .slice A n c] 46)).alloc (.cells #[.int .i64 IW, .int .i64 IH, .int .i64 IB, .string s] 23)).alloc (.cells #[.int .i64 ma, .int .i64 mb, .int .i64 mc, .int .i64 md, .int .i64 me, .int .i64 mf] 25)).alloc (.cells #[.int .i64 rw_, .int .i64 rh, .slice D m d] 51)) 46 #[.int .i64 0, .int .i64 0, .slice none 0 0])
  have hz_Kz : ((((w.alloc (.cells #[.int .i64 pw, .int .i64 ph, .slice A n c] 46)).alloc (.cells #[.int .i64 IW, .int .i64 IH, .int .i64 IB, .string s] 23)).alloc (.cells #[.int .i64 ma, .int .i64 mb, .int .i64 mc, .int .i64 md, .int .i64 me, .int .i64 mf] 25)).alloc (.cells #[.int .i64 rw_, .int .i64 rh, .slice D m d] 51)).heap.size = w.heap.size + 1 + 1 + 1 + 1 := by simp
  rw [hz_Kz] at Kz
  clear hz_Kz
  replace Kp := Kp.below hb Kp.lt
  replace Ki := Ki.below hb Ki.lt
  replace Km := Km.below hb Km.lt
  replace Kr := Kr.below hb Kr.lt
  replace Kz := Kz.below hb Kz.lt
  have hbw : Below w.heap.size w w1 := hst
  replace HR := Lib.hid (HR.out.below hst)
  clear hst hst0 hb 
  have lKp := Kp.lt
  have cKp0 := Kp.cell 0
  have cKp1 := Kp.cell 1
  have cKp2 := Kp.cell 2
  have lKi := Ki.lt
  have cKi0 := Ki.cell 0
  have cKi1 := Ki.cell 1
  have cKi2 := Ki.cell 2
  have cKi3 := Ki.cell 3
  have lKm := Km.lt
  have cKm0 := Km.cell 0
  have cKm1 := Km.cell 1
  have cKm2 := Km.cell 2
  have cKm3 := Km.cell 3
  have cKm4 := Km.cell 4
  have cKm5 := Km.cell 5
  have lKr := Kr.lt
  have cKr0 := Kr.cell 0
  have cKr1 := Kr.cell 1
  have cKr2 := Kr.cell 2
  have lKz := Kz.lt
  have cKz0 := Kz.cell 0
  have cKz1 := Kz.cell 1
  have cKz2 := Kz.cell 2
  have fKz0 := Kz.frozen 0
  have fKz1 := Kz.frozen 1
  have fKz2 := Kz.frozen 2
  simp only [List.getElem?_toArray, List.getElem?_cons_succ, List.getElem?_cons_zero] at cKp0 cKp1 cKp2 cKi0 cKi1 cKi2 cKi3 cKm0 cKm1 cKm2 cKm3 cKm4 cKm5 cKr0 cKr1 cKr2 cKz0 cKz1 cKz2
  go_wp2_with fail
  have hst0 : Below w1.heap.size w1 w1 := by (repeat' (first | exact Below.refl _ _ | exact Below.refl _ _ | refine balloc ?_ _ | refine Below.drew ?_ | refine below_drewN ?_ _ | refine bset ?_ (by first | omega | (simp <;> omega)) _))
  refine (H1.out _).mono ?_
  rintro e_ w2 ⟨rfl, hb⟩
  have hst : Below w1.heap.size w1 w2 := btrans hst0 hb
  replace Kp := Kp.below hb Kp.lt
  replace Ki := Ki.below hb Ki.lt
  replace Km := Km.below hb Km.lt
  replace Kr := Kr.below hb Kr.lt
  replace Kz := Kz.below hb Kz.lt
  replace hbw : Below w.heap.size w w2 := btrans hbw hst
  replace HR := Lib.hid (HR.out.below hst)
  clear hst hst0 hb lKp cKp0 cKp1 cKp2 lKi cKi0 cKi1 cKi2 cKi3 lKm cKm0 cKm1 cKm2 cKm3 cKm4 cKm5 lKr cKr0 cKr1 cKr2 lKz cKz0 cKz1 cKz2 fKz0 fKz1 fKz2
  have lKp := Kp.lt
  have cKp0 := Kp.cell 0
  have cKp1 := Kp.cell 1
  have cKp2 := Kp.cell 2
  have lKi := Ki.lt
  have cKi0 := Ki.cell 0
  have cKi1 := Ki.cell 1
  have cKi2 := Ki.cell 2
  have cKi3 := Ki.cell 3
  have lKm := Km.lt
  have cKm0 := Km.cell 0
  have cKm1 := Km.cell 1
  have cKm2 := Km.cell 2
  have cKm3 := Km.cell 3
  have cKm4 := Km.cell 4
  have cKm5 := Km.cell 5
  have lKr := Kr.lt
  have cKr0 := Kr.cell 0
  have cKr1 := Kr.cell 1
  have cKr2 := Kr.cell 2
  have lKz := Kz.lt
  have cKz0 := Kz.cell 0
  have cKz1 := Kz.cell 1
  have cKz2 := Kz.cell 2
  have fKz0 := Kz.frozen 0
  have fKz1 := Kz.frozen 1
  have fKz2 := Kz.frozen 2
  simp only [List.getElem?_toArray, List.getElem?_cons_succ, List.getElem?_cons_zero] at cKp0 cKp1 cKp2 cKi0 cKi1 cKi2 cKi3 cKm0 cKm1 cKm2 cKm3 cKm4 cKm5 cKr0 cKr1 cKr2 cKz0 cKz1 cKz2
  go_wp2_with fail
  have hst0 : Below w2.heap.size w2 w2 := by (repeat' (first | exact Below.refl _ _ | exact Below.refl _ _ | refine balloc ?_ _ | refine Below.drew ?_ | refine below_drewN ?_ _ | refine bset ?_ (by first | omega | (simp <;> omega)) _))
  refine (H2.out _ (HR.out.below hst0)).mono ?_
  rintro e_ w3 ⟨rfl, hb⟩
  have hst : Below w2.heap.size w2 w3 := btrans hst0 hb
  replace Kp := Kp.below hb Kp.lt
  replace Ki := Ki.below hb Ki.lt
  replace Km := Km.below hb Km.lt
  replace Kr := Kr.below hb Kr.lt
  replace Kz := Kz.below hb Kz.lt
  replace hbw : Below w.heap.size w w3 := btrans hbw hst
  replace HR := Lib.hid (HR.out.below hst)
  clear hst hst0 hb lKp cKp0 cKp1 cKp2 lKi cKi0 cKi1 cKi2 cKi3 lKm cKm0 cKm1 cKm2 cKm3 cKm4 cKm5 lKr cKr0 cKr1 cKr2 lKz cKz0 cKz1 cKz2 fKz0 fKz1 fKz2
  have lKp := Kp.lt
  have cKp0 := Kp.cell 0
  have cKp1 := Kp.cell 1
  have cKp2 := Kp.cell 2
  have lKi := Ki.lt
  have cKi0 := Ki.cell 0
  have cKi1 := Ki.cell 1
  have cKi2 := Ki.cell 2
  have cKi3 := Ki.cell 3
  have lKm := Km.lt
  have cKm0 := Km.cell 0
  have cKm1 := Km.cell 1
  have cKm2 := Km.cell 2
  have cKm3 := Km.cell 3
  have cKm4 := Km.cell 4
  have cKm5 := Km.cell 5
  have lKr := Kr.lt
  have cKr0 := Kr.cell 0
  have cKr1 := Kr.cell 1
  have cKr2 := Kr.cell 2
  have lKz := Kz.lt
  have cKz0 := Kz.cell 0
  have cKz1 := Kz.cell 1
  have cKz2 := Kz.cell 2
  have fKz0 := Kz.frozen 0
  have fKz1 := Kz.frozen 1
  have fKz2 := Kz.frozen 2
  simp only [List.getElem?_toArray, List.getElem?_cons_succ, List.getElem?_cons_zero] at cKp0 cKp1 cKp2 cKi0 cKi1 cKi2 cKi3 cKm0 cKm1 cKm2 cKm3 cKm4 cKm5 cKr0 cKr1 cKr2 cKz0 cKz1 cKz2
  have HKz := Lib.hid Kz
  have HBW := Lib.hid hbw
  clear Kz hbw
  go_wp2_with fail
  have K := ((HKz.out.set_ 0 (.int .i64 0)).set_ 1 (.int .i64 0)).set_ 2 (.slice none 0 0)
  refine ret_struct2 (g := w.heap.size + 1 + 1 + 1 + 1) (t := 46) (cs := #[.int .i64 0, .int .i64 0, .slice none 0 0]) rfl rfl ?_ Try.underlying46 rfl rfl rfl ?_
  · first | exact K | exact K.alloc _
  · exact ⟨rfl, by (repeat' (first | refine bset ?_ (by first | omega | (simp <;> omega)) _ | refine balloc ?_ _ | refine Below.drew ?_ | refine below_drewN ?_ _ | exact HBW.out | exact Below.refl _ _))⟩
end Go.Proofs.Ytegpjjkbbdfggaa.im

/-
  The reference's copied. (PRUNE)
-/
namespace Go.Proofs.Ytegpjjkbbdfggaa.rg
set_option linter.unusedVariables false
set_option linter.unusedSimpArgs false
open Go.RowKit bs sp ik

theorem own_emptyD (w : World) (g base : Nat) (hg : w.heap.size = g) (h : base ≤ g) : (w.alloc (.cells #[] 5)).drew.ownsRow base 5 1 (.slice (some ⟨g, 0, none⟩) 0 0) 0 [] := own_empty w g base hg h
theorem keepC {W0 a w' : World} {b : Nat} {v0 v1 v2 : Value} (hb : Below a.heap.size a w') (h : Below W0.heap.size W0 a ∧ a.cell? ⟨b, 0, none⟩ = some v0 ∧ a.cell? ⟨b, 1, none⟩ = some v1 ∧ a.cell? ⟨b, 2, none⟩ = some v2) :
    Below W0.heap.size W0 w' ∧ w'.cell? ⟨b, 0, none⟩ = some v0 ∧ w'.cell? ⟨b, 1, none⟩ = some v1 ∧ w'.cell? ⟨b, 2, none⟩ = some v2 := by
  obtain ⟨h1, h2, h3, h4⟩ := h
  exact ⟨btrans h1 hb, (hb.cell (p := ⟨b, 0, none⟩) (block_lt_of_cell h2)).trans h2, (hb.cell (p := ⟨b, 1, none⟩) (block_lt_of_cell h3)).trans h3, (hb.cell (p := ⟨b, 2, none⟩) (block_lt_of_cell h4)).trans h4⟩

theorem keepC3 {W0 a : World} {b q : Nat} {v0 v1 v2 : Value} (u0 u1 u2 : Value) (hq : W0.heap.size ≤ q) (hne : b ≠ q) (h : Below W0.heap.size W0 a ∧ a.cell? ⟨b, 0, none⟩ = some v0 ∧ a.cell? ⟨b, 1, none⟩ = some v1 ∧ a.cell? ⟨b, 2, none⟩ = some v2) :
    Below W0.heap.size W0 (((a.setCell ⟨q, 0, none⟩ u0).setCell ⟨q, 1, none⟩ u1).setCell ⟨q, 2, none⟩ u2) ∧ (((a.setCell ⟨q, 0, none⟩ u0).setCell ⟨q, 1, none⟩ u1).setCell ⟨q, 2, none⟩ u2).cell? ⟨b, 0, none⟩ = some v0 ∧
      (((a.setCell ⟨q, 0, none⟩ u0).setCell ⟨q, 1, none⟩ u1).setCell ⟨q, 2, none⟩ u2).cell? ⟨b, 1, none⟩ = some v1 ∧ (((a.setCell ⟨q, 0, none⟩ u0).setCell ⟨q, 1, none⟩ u1).setCell ⟨q, 2, none⟩ u2).cell? ⟨b, 2, none⟩ = some v2 := by
  obtain ⟨h1, h2, h3, h4⟩ := h
  have far : ∀ (v : World) (o1 o2 : Nat) (u : Value), (v.setCell ⟨q, o1, none⟩ u).cell? ⟨b, o2, none⟩ = v.cell? ⟨b, o2, none⟩ := fun v o1 o2 u => World.cell?_setCell_other v _ _ u (fun e => hne (Addr.mk.inj e).1.symm)
  exact ⟨bset (bset (bset h1 hq _) hq _) hq _, by rw [far, far, far]; exact h2, by rw [far, far, far]; exact h3, by rw [far, far, far]; exact h4⟩

set_option maxRecDepth 100000 in
set_option maxHeartbeats 1600000 in
theorem rcopied_any (W H : Int) (n c : Nat) (A : Option Addr) (B : Nat → Int) (w : World) (hn0 : 0 < n) (hn : n ≤ 12288) (hp : Pg w A n c B) :
    Calls Try.prog 78 #[.agg #[.int .i64 W, .int .i64 H, .slice A n c]] w fun e w' => ∃ g d cs, w.heap.size ≤ g ∧ e = .returned (.agg #[.int .i64 W, .int .i64 H, .slice (some ⟨g, 0, none⟩) n d]) ∧ n ≤ d ∧ Blk w' g 5 cs ∧ Holds cs n B ∧ Below w.heap.size w w' := by
  obtain ⟨hnc, b, o, rfl, hlt, hcell⟩ := id hp
  obtain ⟨i0, hi, hz0, hz1, hz2⟩ := info_parts (show (Try.prog.info? 5).map (fun i => (i.zero, i.size, i.bytes)) = some (some (.int .u8 0), 1, 1) by kernel_rfl)
  have Kp := ((Blk.new w 46 #[.int .i64 W, .int .i64 H, .slice (some ⟨b, o, none⟩) n c]).alloc (.cells #[.int .i64 0, .int .i64 0, .slice none 0 0] 46))
  have Kz := (Blk.new (w.alloc (.cells #[.int .i64 W, .int .i64 H, .slice (some ⟨b, o, none⟩) n c] 46)) 46 #[.int .i64 0, .int .i64 0, .slice none 0 0])
  have s1 : ∀ (u : World) (o : Obj), (u.alloc o).heap.size = u.heap.size + 1 := fun u o => by simp
  simp only [s1] at Kz
  have HP := Lib.hid hp
  have hbw : Below w.heap.size w ((w.alloc (.cells #[.int .i64 W, .int .i64 H, .slice (some ⟨b, o, none⟩) n c] 46)).alloc (.cells #[.int .i64 0, .int .i64 0, .slice none 0 0] 46)) := by (repeat' (first | exact Below.refl _ _ | exact Below.refl _ _ | refine balloc ?_ _ | refine Below.drew ?_ | refine below_drewN ?_ _ | refine bset ?_ (by first | omega | (simp <;> omega)) _))
  clear s1 hp hcell
  go_enter Try.func78, Try.ntmps78
  go_wp2_with fail
  generalize hwx : (w.alloc (.cells #[.int .i64 W, .int .i64 H, .slice (some ⟨b, o, none⟩) n c] 46)).alloc (.cells #[.int .i64 0, .int .i64 0, .slice none 0 0] 46) = wz at *
  have hsz : wz.heap.size = w.heap.size + 1 + 1 := by rw [← hwx]; simp
  clear hwx
  have k0 := Kp.cell 0
  have k1 := Kp.cell 1
  have k2 := Kp.cell 2
  simp only [List.getElem?_toArray, List.getElem?_cons_succ, List.getElem?_cons_zero] at k0 k1 k2
  have HS0 : (fun wX : World => Below w.heap.size w wX ∧ wX.cell? ⟨w.heap.size, 0, none⟩ = some (.int .i64 W) ∧ wX.cell? ⟨w.heap.size, 1, none⟩ = some (.int .i64 H) ∧ wX.cell? ⟨w.heap.size, 2, none⟩ = some (.slice (some ⟨b, o, none⟩) n c)) wz.drew := ⟨Below.drew hbw, k0, k1, k2⟩
  clear k0 k1 k2
  go_region_held3 (fun wX : World => Below w.heap.size w wX ∧ wX.cell? ⟨w.heap.size, 0, none⟩ = some (.int .i64 W) ∧ wX.cell? ⟨w.heap.size, 1, none⟩ = some (.int .i64 H) ∧ wX.cell? ⟨w.heap.size, 2, none⟩ = some (.slice (some ⟨b, o, none⟩) n c)) (first | exact HS0 | exact keepC (balloc (Below.refl _ _) _) HS0 | exact hSa | exact keepC3 _ _ _ (Nat.le_succ _) (by omega) hSa | assumption) (first
    | (refine step_append_any _ rfl (.tmp 7) (.tmp 9) 44 rfl (w.heap.size + 1 + 1) 5 i0 (.int .u8 0) 1 1 Try.underlying44 hi hz0 hz1 hz2 rfl (by omega) _ 0 [] rfl (own_emptyD _ (w.heap.size + 1 + 1) _ (by simpa using hsz) (by omega)) _ (some ⟨b, o, none⟩) n c _ rfl (HP.out.below (And.left (by assumption))).reads (by simp [Value.oneCell']) (by simp [maxLen]; omega) (by omega) (by first | (simp; done) | (simp; omega)) ?_; intro v1 w1 hown1 hg1 _; obtain ⟨g, d, cs, hv, hg, hB, hd, hs, ht, hbw1, K1, Z1⟩ := copied_mid hn0 hown1 hg1 (And.left (by assumption)) (Kp.alloc _).drew (Kz.alloc _).drew; subst hv; have hSa := And.intro hbw1 (And.intro (K1.cell 0) (And.intro (K1.cell 1) (K1.cell 2))); have z0 := Z1.cell 0; have z1 := Z1.cell 1; have z2 := Z1.cell 2; have y0 := Z1.frozen 0; have y1 := Z1.frozen 1; have y2 := Z1.frozen 2; simp only [List.getElem?_toArray, List.getElem?_cons_succ, List.getElem?_cons_zero] at hSa z0 z1 z2; have HB1 := Lib.hid hB; have HT := Lib.hid ht; have HZ1 := Lib.hid Z1; have HBW1 := Lib.hid hbw1; clear hB ht Z1 K1 hbw1 hown1 hg1))
  clear hsz hSa Kp Kz hbw hi hz0 hz1 hz2 z0 z1 z2 y0 y1 y2 HS0
  go_wp2_with fail
  have K := ((HZ1.out.set_ 0 (.int .i64 W)).set_ 1 (.int .i64 H)).set_ 2 (.slice (some ⟨g, 0, none⟩) n d)
  refine ret_struct1 (g := w.heap.size + 1) (t := 46) (cs := #[.int .i64 W, .int .i64 H, .slice (some ⟨g, 0, none⟩) n d]) rfl rfl ?_ Try.underlying46 rfl rfl rfl ?_
  · exact K
  · exact ⟨g, d, cs, by omega, rfl, hd, ((HB1.out.far (by simp; omega) _).far (by simp; omega) _).far (by simp; omega) _, Holds.of_take HP.out (by omega) HT.out, by (repeat' (first | refine bset ?_ (by first | omega | (simp <;> omega)) _ | refine balloc ?_ _ | refine Below.drew ?_ | refine below_drewN ?_ _ | exact HBW1.out | exact Below.refl _ _))⟩
end Go.Proofs.Ytegpjjkbbdfggaa.rg
