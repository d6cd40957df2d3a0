/-
  The reference's May of runs (as in span/XRefSays); MayRegion, fair. (PRUNE)
-/
import Derived.Test.YtmjpmeigfdgioaaRefPut
import Derived.Test.YtmjpmeigfdgioaaRefRuns
namespace Go.Proofs.Ytmjpmeigfdgioaa.rg
set_option linter.unusedVariables false
set_option linter.unusedSimpArgs false
open Go.RowKit bs sp ik

set_option maxRecDepth 100000 in
set_option maxHeartbeats 3200000 in
theorem rmay_any (A : Option Addr) (n c : Nat) (l : List (Int × Int)) (x : Int) (w : World) (hr : Runs w A n c l) (hn : n ≤ 9223372036854775807) :
    Calls Try.prog 69 #[.slice A n c, .int .i64 x] w fun e w' => e = .returned (.bool (sp.mayB l x)) ∧ Below w.heap.size w w' := by
  by_cases hx : 0 ≤ x ∧ x ≤ 64
  · obtain ⟨x0, x1⟩ := hx
    have he : sp.mayB l x = mayFrom x (lastTo (-1) (l.take 0)) (l.drop 0) := by unfold sp.mayB; simp [x0, x1, lastTo]
    have d1 : decide (x < 0) = false := by simp; omega
    have d2 : decide (64 < x) = false := by simp; omega
    have HE := Lib.hid he
    clear he
    go_enter Try.func69, Try.ntmps69
    go_wp2_with fail
    go_loopw [5, 6] (fun lv kv wr => ∃ (k : Nat) (last : Int), k ≤ n ∧ kv = .int .i64 k ∧ lv = .int .i64 last ∧ Hid (last = lastTo (-1) (l.take k)) ∧ Hid (mayB l x = mayFrom x (lastTo (-1) (l.take k)) (l.drop k)) ∧ Below w.heap.size w wr) (fun _ kv _ => n - (intOf kv).toNat)
    case atStart => exact ⟨0, -1, by omega, rfl, rfl, rfl, HE, Below.refl _ _⟩
    case round =>
      obtain ⟨k, last, hk, rfl, rfl, hla, hma, hbw⟩ := hrel
      have hlen := hr.1
      by_cases hlt : k < n
      · obtain ⟨hl, hnc, hcell⟩ := hr.below hbw
        obtain ⟨b, o, rfl, hb, hcell⟩ := hcell (by omega)
        obtain ⟨c1, c2⟩ := hcell k (by omega)
        have hsp := mayFrom_split x (-1) l k (by omega)
        have hnl : lastTo (-1) (l.take (k + 1)) = l[k].2 := by rw [List.take_succ_eq_append_getElem (by omega), lastTo_append]
        rw [← hma.out, ← hla.out] at hsp
        generalize l[k].1 = p at *
        generalize l[k].2 = q at *
        have HSP := Lib.hid hsp
        have HNL := Lib.hid hnl
        clear hsp hnl hcell hl hlen
        by_cases h1 : last < p
        · have b1 : decide (p ≤ last) = false := by simp; omega
          by_cases h2 : p < q
          · have b2 : decide (q ≤ p) = false := by simp; omega
            by_cases h3 : q ≤ x
            · have b3 : decide (x < q) = false := by simp; omega
              have hnext := Lib.hid (show sp.mayB l x = _ by rw [HSP.out]; simp [h1, h2, h3] : sp.mayB l x = mayFrom x (lastTo (-1) (l.take (k + 1))) (l.drop (k + 1)))
              clear h1 h2 h3
              go_wp2_with fail
              go_quiet (fail)
              go_wp2_with fail
              go_roundw
              case rel => exact ⟨k + 1, q, by omega, by go_num, rfl, HNL.out.symm, hnext, by (repeat' (first | exact hbw | exact Below.refl _ _ | refine balloc ?_ _ | refine Below.drew ?_ | refine below_drewN ?_ _ | refine bset ?_ (by first | omega | (simp <;> omega)) _))⟩
              case measure => simp [intOf]; omega
            · have b3 : decide (x < q) = true := by simp; omega
              have HF := Lib.hid (show sp.mayB l x = false by rw [HSP.out]; simp; omega)
              clear h1 h2 h3
              go_wp2_with fail
              go_quiet (fail)
              go_wp2_with fail
              go_ret
              exact ⟨ret_bool HF.out.symm, by (repeat' (first | exact hbw | exact Below.refl _ _ | refine balloc ?_ _ | refine Below.drew ?_ | refine below_drewN ?_ _ | refine bset ?_ (by first | omega | (simp <;> omega)) _))⟩
          · have b2 : decide (q ≤ p) = true := by simp; omega
            have HF := Lib.hid (show sp.mayB l x = false by rw [HSP.out]; simp; omega)
            clear h1 h2
            go_wp2_with fail
            go_quiet (fail)
            go_wp2_with fail
            go_ret
            exact ⟨ret_bool HF.out.symm, by (repeat' (first | exact hbw | exact Below.refl _ _ | refine balloc ?_ _ | refine Below.drew ?_ | refine below_drewN ?_ _ | refine bset ?_ (by first | omega | (simp <;> omega)) _))⟩
        · have b1 : decide (p ≤ last) = true := by simp; omega
          have HF := Lib.hid (show sp.mayB l x = false by rw [HSP.out]; simp; omega)
          clear h1
          go_wp2_with fail
          go_quiet (fail)
          go_wp2_with fail
          go_ret
          exact ⟨ret_bool HF.out.symm, by (repeat' (first | exact hbw | exact Below.refl _ _ | refine balloc ?_ _ | refine Below.drew ?_ | refine below_drewN ?_ _ | refine bset ?_ (by first | omega | (simp <;> omega)) _))⟩
      · obtain rfl : k = n := by omega
        have ht : sp.mayB l x = true := by rw [hma.out, List.drop_eq_nil_of_le (by omega)]; rfl
        have HT := Lib.hid ht
        clear hlen ht
        go_wp2_with fail
        go_ret
        exact ⟨ret_bool HT.out.symm, hbw⟩
  · have he : sp.mayB l x = false := by unfold sp.mayB; simp; omega
    rw [he]
    clear he
    by_cases h0 : x < 0
    · go_enter Try.func69, Try.ntmps69
      go_wp2_with fail
      go_ret
      exact ⟨rfl, Below.refl _ _⟩
    · go_enter Try.func69, Try.ntmps69
      go_wp2_with fail
      go_ret
      exact ⟨rfl, Below.refl _ _⟩

set_option maxRecDepth 100000 in
set_option maxHeartbeats 1600000 in
theorem mayreg_yes (W H d : Nat) (D : Option Addr) (R : Nat → Nat → Bool) (w : World) (hW : 1 ≤ W ∧ W ≤ 64) (hH : 1 ≤ H ∧ H ≤ 64) (hr : Rows w D H d (rowsOf W R)) :
    Calls Try.prog 59 #[.agg #[.int .i64 (W : Int), .int .i64 (H : Int), .slice D H d]] w fun e w' => e = .returned (.bool true) ∧ Below w.heap.size w w' := by
  obtain ⟨hd, hc⟩ := hr
  obtain ⟨b, o, rfl, hbl, hc⟩ := hc (by omega)
  have HC := Lib.hid hc
  have HMB := Lib.hid (fun j => rowsOf_mayB W R j hW.2)
  have HS1 := Lib.hid (isside_yes W hW)
  have HS2 := Lib.hid (isside_yes H hH)
  have K := Blk.new w 35 #[.int .i64 (W : Int), .int .i64 (H : Int), .slice (some ⟨b, o, none⟩) H d]
  have HK := Lib.hid K
  have HBW := Lib.hid (show Below w.heap.size w (w.alloc (.cells #[.int .i64 (W : Int), .int .i64 (H : Int), .slice (some ⟨b, o, none⟩) H d] 35)) from balloc (Below.refl _ _) _)
  obtain ⟨h0, h1⟩ := hH
  clear hc K hW
  go_enter Try.func59, Try.ntmps59
  go_wp2_with fail
  refine (HS1.out _).mono ?_
  rintro e_ w_ ⟨rfl, rfl⟩
  go_wp2_with fail
  refine (HS2.out _).mono ?_
  rintro e_ w_ ⟨rfl, rfl⟩
  go_wp2_with fail
  go_loopw [3] (fun kv wr => ∃ k : Nat, k ≤ H ∧ kv = .int .i64 (k : Int) ∧ Blk wr w.heap.size 35 #[.int .i64 (W : Int), .int .i64 (H : Int), .slice (some ⟨b, o, none⟩) H d] ∧ Below w.heap.size w wr) (fun kv _ => H - (intOf kv).toNat)
  case atStart => exact ⟨0, by omega, rfl, HK.out, HBW.out⟩
  case round =>
    clear HK HBW
    obtain ⟨k, hk, rfl, K, hbw⟩ := hrel
    have a1 := K.cell 1
    simp only [List.getElem?_toArray, List.getElem?_cons_succ, List.getElem?_cons_zero] at a1
    by_cases hlt : k < H
    · have d1 : decide ((k : Int) < (H : Int)) = true := by simp; omega
      have d3 : (k : Int) < (H : Int) := by omega
      obtain ⟨hl, Aj, cj, q1, q2⟩ := HC.out k hlt
      have x1 := (hbw.cell (p := ⟨b, o + k, none⟩) hbl).trans q1
      have lb := Nat.lt_of_lt_of_le hbl hbw.size
      have a0 := K.cell 0
      have a2 := K.cell 2
      simp only [List.getElem?_toArray, List.getElem?_cons_succ, List.getElem?_cons_zero] at a0 a2
      have lk := K.lt
      have HMJ := Lib.hid (fun (W' : World) (hW' : Below w.heap.size w W') => HMB.out k ▸ rmay_any Aj _ cj (rowsOf W R k) W W' (q2.below hW') hl)
      generalize (rowsOf W R k).length = nj at *
      have v0 := fun u : Up wr => (u.cell (p := ⟨w.heap.size, 0, none⟩) lk).trans a0
      have v2 := fun u : Up wr => (u.cell (p := ⟨w.heap.size, 2, none⟩) lk).trans a2
      have v3 := fun u : Up wr => (u.cell (p := ⟨b, o + k, none⟩) lb).trans x1
      have HU := Lib.hid (fun u : Up wr => up_of (HMJ.out u.val (btrans hbw u.ok)))
      have HK2 := Lib.hid K
      have HB2 := Lib.hid hbw
      clear K hbw HMJ q1 q2 hl
      go_wp2_with fail
      refine wp_region_up (by kernel_rfl) (by kernel_rfl) ?_
      repeat (go_big_quiet_step (fail))
      go_big_quiet_step (exact HU.out _)
      repeat (go_big_quiet_step (fail))
      refine wpQuiet_nil ?_
      rintro _ ⟨uq, rfl⟩
      have hK3 := Lib.hid (HK2.out.below uq.ok lk)
      have hB3 := Lib.hid (btrans HB2.out uq.ok)
      clear v0 v2 v3 HU HK2 HB2 a0 a1 a2 x1 lk lb
      generalize hwx : uq.val = wq at *
      clear hwx uq
      go_wp2_with fail
      go_roundw
      case rel => exact ⟨k + 1, by omega, by go_num, hK3.out, hB3.out⟩
      case measure => simp [intOf]; omega
    · obtain rfl : k = H := by omega
      have d1 : decide ((k : Int) < (k : Int)) = false := by simp
      have HB2 := Lib.hid hbw
      clear hbw K
      go_wp2_with fail
      go_ret
      exact ⟨rfl, HB2.out⟩
end Go.Proofs.Ytmjpmeigfdgioaa.rg
