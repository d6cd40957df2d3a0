/-
  Layer 37: Made.
-/
import Derived.Test.YtegpjjkbbdfggaaMade
import Derived.Test.YtegpjjkbbdfggaaUpTail
namespace Go.Proofs.Ytegpjjkbbdfggaa.im
set_option linter.unusedVariables false
set_option linter.unusedSimpArgs false
open Go.RowKit bs mt op

set_option maxRecDepth 100000 in
set_option maxHeartbeats 1600000 in
theorem made_none (A : Option Addr) (n c : Nat) (ns : Nat → Int) (bits B e : Int) (w : World) (hr : Ints w A n c ns) (hn : n ≤ 9223372036854775807) (B0 : 1 ≤ B) (B1 : B ≤ 8) (e0 : 0 ≤ e) (e1 : e < 4) (hBe : (2 : Int) ^ e.toNat = B)
    (HPe : Hid (∀ W', Calls Try.prog 25 #[.int .i64 bits, .int .i64 4] W' fun ed w' => ed = .returned (.int .i64 e) ∧ W' = w'))
    (hn1 : ¬ 1 < n) (hR : (B + 7) / 8 = 1)
    : Calls Try.prog 23 #[.slice A n c, .int .i64 bits] w fun ed w' => ed = .returned (.agg #[.int .i64 1, .int .i64 1, .int .i64 B, .string ⟨(madeL ns n 1).toArray⟩]) ∧ Below w.heap.size w w' := by
  obtain ⟨i0, hi, hz0, hz1, hz2⟩ := info_parts (show (Try.prog.info? 5).map (fun i => (i.zero, i.size, i.bytes)) = some (some (.int .u8 0), 1, 1) by kernel_rfl)
  have hmk := fun W => run_make_rowN (P := Try.prog) 44 5 i0 (.int .u8 0) Try.underlying44 hi hz0 .i64 .i64 1 1 (Nat.le_refl _) (by rw [hz2]; omega) (by omega) W
  simp only [hz1, Nat.mul_one] at hmk
  rw [show ((1 : Nat) : Int) = 1 from rfl] at hmk

  have d0 : decide ((1 : Int) < (n : Int)) = false := by simp; omega
  have d2 : ¬ 2 < n := by omega
  have d3 : decide ((2 : Int) < (n : Int)) = false := by simp; omega
  go_enter Try.func23, Try.ntmps23
  go_wp2_with fail
  refine (HPe.out _).mono ?_
  rintro e_ w_ ⟨rfl, rfl⟩
  go_wp2_with fail
  have Kz := Blk.new w 23 #[.int .i64 0, .int .i64 0, .int .i64 0, .string ⟨#[]⟩]
  have hbw : Below w.heap.size w (w.alloc (.cells #[.int .i64 0, .int .i64 0, .int .i64 0, .string ⟨#[]⟩] 23)) := by (repeat' (first | exact Below.refl _ _ | exact Below.refl _ _ | refine balloc ?_ _ | refine Below.drew ?_ | refine below_drewN ?_ _ | refine bset ?_ (by first | omega | (simp <;> omega)) _))
  have hm0 := MadeRel.start ns n 1 Kz hbw (by simp)
  have hs0 := MadeRel.str hm0 (.inr d2) 1
  rw [show (w.alloc (.cells #[.int .i64 0, .int .i64 0, .int .i64 0, .string ⟨#[]⟩] 23)).heap.size = w.heap.size + 1 by simp] at hm0 hs0
  have HM := Lib.hid hm0
  have HST := Lib.hid hs0
  clear Kz hbw hm0 hs0
  go_wp2_with fail
  go_loopw [9] (fun cv wr => cv = .int .i64 0 ∧ wr = (w.alloc (.cells #[.int .i64 0, .int .i64 0, .int .i64 0, .string ⟨#[]⟩] 23)).alloc (.cells (madeCells #[.int .u8 0] 1) 5)) (fun _ _ => 0)
  case atStart => exact ⟨rfl, rfl⟩
  case round =>
    obtain ⟨rfl, rfl⟩ := hrel
    obtain ⟨cs, _, _, _, _, Kz, _, hbw⟩ := HM.out
    have hst := HST.out
    clear HM HST
    have c0 := Kz.cell 0
    have c1 := Kz.cell 1
    have c2 := Kz.cell 2
    have c3 := Kz.cell 3
    have f0 := Kz.frozen 0
    have f1 := Kz.frozen 1
    have f2 := Kz.frozen 2
    have f3 := Kz.frozen 3
    simp only [List.getElem?_toArray, List.getElem?_cons_succ, List.getElem?_cons_zero] at c0 c1 c2 c3
    have HKz := Lib.hid Kz
    have HBW := Lib.hid hbw
    clear Kz hbw
    go_wp2_with fail
    refine ret_struct1 (g := w.heap.size) (t := 23) (cs := #[.int .i64 1, .int .i64 1, .int .i64 B, .string ⟨(madeL ns n 1).toArray⟩]) rfl rfl ?_ Try.underlying23 rfl rfl rfl ?_
    · exact (Blk.new _ _ _).alloc _
    · exact ⟨rfl, by (repeat' (first | exact Below.refl _ _ | exact Below.refl _ _ | refine balloc ?_ _ | refine Below.drew ?_ | refine below_drewN ?_ _ | refine bset ?_ (by first | omega | (simp <;> omega)) _))⟩

set_option maxRecDepth 100000 in
set_option maxHeartbeats 1600000 in
theorem made_some (A : Option Addr) (n c : Nat) (ns : Nat → Int) (bits B e : Int) (Wn Hn R L : Nat) (w : World) (hr : Ints w A n c ns) (hn : n ≤ 9223372036854775807) (B0 : 1 ≤ B) (B1 : B ≤ 8) (e0 : 0 ≤ e) (e1 : e < 4) (hBe : (2 : Int) ^ e.toNat = B)
    (HPe : Hid (∀ W', Calls Try.prog 25 #[.int .i64 bits, .int .i64 4] W' fun ed w' => ed = .returned (.int .i64 e) ∧ W' = w'))
    (hn1 : 1 < n) (hw0 : 1 + ns 0 % 9 = (Wn : Int)) (hh0 : 1 + ns 1 % 9 = (Hn : Int)) (W0 : 1 ≤ Wn) (W1 : Wn ≤ 9) (H0 : 1 ≤ Hn) (H1 : Hn ≤ 9) (hR : ((Wn : Int) * B + 7) / 8 = (R : Int)) (hRL : (Hn : Int) * (R : Int) = (L : Int)) (hL : L ≤ 81)
    : Calls Try.prog 23 #[.slice A n c, .int .i64 bits] w fun ed w' => ed = .returned (.agg #[.int .i64 (Wn : Int), .int .i64 (Hn : Int), .int .i64 B, .string ⟨(madeL ns n L).toArray⟩]) ∧ Below w.heap.size w w' := by
  obtain ⟨i0, hi, hz0, hz1, hz2⟩ := info_parts (show (Try.prog.info? 5).map (fun i => (i.zero, i.size, i.bytes)) = some (some (.int .u8 0), 1, 1) by kernel_rfl)
  have hmk := fun W => run_make_rowN (P := Try.prog) 44 5 i0 (.int .u8 0) Try.underlying44 hi hz0 .i64 .i64 L L (Nat.le_refl _) (by rw [hz2]; omega) (by omega) W
  simp only [hz1, Nat.mul_one] at hmk

  have hwb : 1 ≤ (Wn : Int) * B ∧ (Wn : Int) * B ≤ 72 := by
    have h1 := Int.mul_nonneg (show (0 : Int) ≤ (Wn : Int) - 1 by omega) (show 0 ≤ B - 1 by omega)
    have h2 := Int.mul_nonneg (show (0 : Int) ≤ 9 - (Wn : Int) by omega) (show 0 ≤ B by omega)
    simp only [Int.sub_mul, Int.mul_sub] at h1 h2
    omega
  obtain ⟨wb0, wb1⟩ := hwb
  generalize hwb : (Wn : Int) * B = wb at *
  obtain ⟨hnc, hcell⟩ := hr
  obtain ⟨b, o, rfl, hbl, hcell⟩ := hcell (by omega)
  have d0 : decide ((1 : Int) < (n : Int)) = true := by simp; omega
  have p0 := hcell 0 (by omega)
  have p1 := hcell 1 (by omega)
  simp only [Nat.add_zero] at p0
  have HP0 := Lib.hid (fun W => place_any (ns 0) 9 W (by decide) (by decide))
  have HP1 := Lib.hid (fun W => place_any (ns 1) 9 W (by decide) (by decide))
  have bq0 : 0 ≤ ns 0 % 9 ∧ ns 0 % 9 ≤ 8 := by omega
  have bq1 : 0 ≤ ns 1 % 9 ∧ ns 1 % 9 ≤ 8 := by omega
  obtain ⟨s0, hs0⟩ : ∃ x, ns 0 % 9 = x := ⟨_, rfl⟩
  obtain ⟨s1, hs1⟩ : ∃ x, ns 1 % 9 = x := ⟨_, rfl⟩
  obtain ⟨x0, hx0⟩ : ∃ x, ns 0 = x := ⟨_, rfl⟩
  obtain ⟨x1, hx1⟩ : ∃ x, ns 1 = x := ⟨_, rfl⟩
  rw [hs0] at hw0 bq0
  rw [hs1] at hh0 bq1
  replace HP0 : Hid (∀ W', Calls Try.prog 25 #[.int .i64 x0, .int .i64 9] W' fun ed w' => ed = .returned (.int .i64 s0) ∧ W' = w') := by have := HP0.out; rw [hs0, hx0] at this; exact Lib.hid this
  replace HP1 : Hid (∀ W', Calls Try.prog 25 #[.int .i64 x1, .int .i64 9] W' fun ed w' => ed = .returned (.int .i64 s1) ∧ W' = w') := by have := HP1.out; rw [hs1, hx1] at this; exact Lib.hid this
  rw [hx0] at p0
  rw [hx1] at p1
  clear hs0 hs1 hx0 hx1
  obtain ⟨bq00, bq01⟩ := bq0
  obtain ⟨bq10, bq11⟩ := bq1
  have HC := Lib.hid hcell
  have HNC := Lib.hid hnc
  clear hcell hnc
  go_enter Try.func23, Try.ntmps23
  go_wp2_with fail
  refine (HPe.out _).mono ?_
  rintro e_ w_ ⟨rfl, rfl⟩
  go_wp2_with fail
  have Kz := (Blk.new w 23 #[.int .i64 0, .int .i64 0, .int .i64 0, .string ⟨#[]⟩])
  have hbw : Below w.heap.size w (w.alloc (.cells #[.int .i64 0, .int .i64 0, .int .i64 0, .string ⟨#[]⟩] 23)) := by (repeat' (first | exact Below.refl _ _ | exact Below.refl _ _ | refine balloc ?_ _ | refine Below.drew ?_ | refine below_drewN ?_ _ | refine bset ?_ (by first | omega | (simp <;> omega)) _))
  generalize hwx : (w.alloc (.cells #[.int .i64 0, .int .i64 0, .int .i64 0, .string ⟨#[]⟩] 23)) = wa at *
  clear hwx
  have lKz := Kz.lt
  have cKz0 := Kz.cell 0
  have cKz1 := Kz.cell 1
  have cKz2 := Kz.cell 2
  have cKz3 := Kz.cell 3
  simp only [List.getElem?_toArray, List.getElem?_cons_succ, List.getElem?_cons_zero] at cKz0 cKz1 cKz2 cKz3
  have p0a := (hbw.cell (p := ⟨b, o, none⟩) hbl).trans p0
  have p1a := (hbw.cell (p := ⟨b, o + 1, none⟩) hbl).trans p1
  have hba := Nat.lt_of_lt_of_le hbl hbw.size
  clear p0 p1
  have v0 : ∀ u : Up wa, u.val.cell? ⟨b, o, none⟩ = some (.int .i64 x0) := fun u => (u.cell hba).trans p0a
  have v1 : ∀ u : Up wa, u.val.cell? ⟨b, o + 1, none⟩ = some (.int .i64 x1) := fun u => (u.cell hba).trans p1a
  have HU0 := Lib.hid (fun u : Up wa => up_same (u := u) (HP0.out u.val))
  have HU1 := Lib.hid (fun u : Up wa => up_same (u := u) (HP1.out u.val))
  refine wp_region_up (by kernel_rfl) (by kernel_rfl) ?_
  repeat (go_big_quiet_step (fail))
  go_big_quiet_step (exact HU0.out _)
  repeat (go_big_quiet_step (fail))
  go_big_quiet_step (exact HU1.out _)
  repeat (go_big_quiet_step (fail))
  refine wpQuiet_nil ?_
  rintro _ ⟨uq, rfl⟩
  replace Kz := Kz.below uq.ok lKz
  replace hbw := btrans hbw uq.ok
  generalize hwx : uq.val = w1 at *
  clear hwx uq lKz cKz0 cKz1 cKz2 cKz3 HU0 HU1 v0 v1 p0a p1a hba HP0 HP1
  have lKz := Kz.lt
  have cKz0 := Kz.cell 0
  have cKz1 := Kz.cell 1
  have cKz2 := Kz.cell 2
  have cKz3 := Kz.cell 3
  simp only [List.getElem?_toArray, List.getElem?_cons_succ, List.getElem?_cons_zero] at cKz0 cKz1 cKz2 cKz3
  have hsw := Kz.lt
  have HM := Lib.hid (MadeRel.start ns n L Kz hbw hsw)
  clear Kz hbw lKz cKz0 cKz1 cKz2 cKz3
  go_wp2_with fail
  go_loopw [9] (fun cv wr => ∃ k : Nat, k ≤ L ∧ cv = .int .i64 k ∧ MadeRel w w1.heap.size ns n L k wr) (fun cv _ => L - (intOf cv).toNat)
  case atStart => exact ⟨0, by omega, rfl, HM.out⟩
  case round =>
    clear HM
    obtain ⟨k, hk, rfl, hrel⟩ := hrel
    by_cases h2 : 2 < n
    · have d3 : decide ((2 : Int) < (n : Int)) = true := by simp; omega
      by_cases hlt : k < L
      · have d4 : decide ((k : Int) < (L : Int)) = true := by simp; omega
        obtain ⟨m, hm, m0⟩ : ∃ m : Nat, n = m + 2 ∧ 0 < m := ⟨n - 2, by omega, by omega⟩
        have hA : (n : Int) - 2 = (m : Int) := by omega
        have hyk : madeY ns n k = ((ns (2 + k % m) % 1048576) / 2 ^ (k / m % 12)) % 256 := by unfold madeY; rw [if_pos h2, show n - 2 = m by omega]
        have hmodn : (k : Int).tmod (m : Int) = ((k % m : Nat) : Int) := by rw [Int.tmod_eq_emod_of_nonneg (by omega)]; push_cast; rfl
        have hdivn : (k : Int).tdiv (m : Int) = ((k / m : Nat) : Int) := by rw [Int.tdiv_eq_ediv_of_nonneg (by omega)]; push_cast; rfl
        have hrlt := Nat.mod_lt k m0
        have hqle : k / m ≤ k := Nat.div_le_self k m
        generalize k % m = r at *
        generalize k / m = q at *
        have htm : (q : Int).tmod 12 = ((q % 12 : Nat) : Int) := by rw [Int.tmod_eq_emod_of_nonneg (by omega)]; push_cast; rfl
        have htl : q % 12 < 12 := Nat.mod_lt q (by omega)
        generalize q % 12 = t at *
        obtain ⟨p, hp⟩ : ∃ p, 2 + r = p := ⟨_, rfl⟩
        have hpI : (2 : Int) + (r : Int) = (p : Int) := by omega
        have hpn : p < n := by omega
        have hc := HC.out p hpn
        rw [hp] at hyk
        obtain ⟨x, hx⟩ : ∃ x, ns p = x := ⟨_, rfl⟩
        rw [hx] at hyk hc
        have HPL := Lib.hid (fun W => place_any x 1048576 W (by decide) (by decide))
        obtain ⟨z, hz⟩ : ∃ z, x % 1048576 = z := ⟨_, rfl⟩
        have hz1 : 0 ≤ z ∧ z < 1048576 := by omega
        replace HPL : Hid (∀ W', Calls Try.prog 25 #[.int .i64 x, .int .i64 1048576] W' fun ed w' => ed = .returned (.int .i64 z) ∧ W' = w') := by have := HPL.out; rw [hz] at this; exact Lib.hid this
        rw [hz] at hyk
        have hmz : ((m : Int) == 0) = false := by simp; omega
        have hsz : w.heap.size ≤ wr.heap.size := by obtain ⟨_, _, _, _, _, _, _, h⟩ := hrel; exact h.size
        have hcr : wr.cell? ⟨b, o + p, none⟩ = some (.int .i64 x) := by obtain ⟨_, _, _, _, _, _, _, h⟩ := hrel; exact (h.cell (p := ⟨b, o + p, none⟩) hbl).trans hc
        have hbr : b < wr.heap.size := Nat.lt_of_lt_of_le hbl hsz
        have hnext := Lib.hid fun (wz : World) (hb : Below wr.heap.size wr wz) => MadeRel.step (hrel.below hb) hlt
        have hcl := Lib.hid fun (wz : World) (hb : Below wr.heap.size wr wz) => show (∃ v, wz.cell? ⟨w1.heap.size, k, none⟩ = some (.int .u8 v)) ∧ wz.frozen? ⟨w1.heap.size, k, none⟩ = false by
          obtain ⟨cs, h1, _, h3, _⟩ := hrel.below hb
          obtain ⟨v, hv⟩ := h3 k hlt
          exact ⟨⟨v, by rw [h1.cell]; exact hv⟩, h1.frozen k⟩
        clear hrel hc hx hz hm hsz
        obtain ⟨hz10, hz11⟩ := hz1
        go_wp2_with fail
        have v2 : ∀ u : Up wr, u.val.cell? ⟨b, o + p, none⟩ = some (.int .i64 x) := fun u => (u.cell hbr).trans hcr
        have HU := Lib.hid (fun u : Up wr => up_same (u := u) (HPL.out u.val))
        refine wp_region_up_tail 22 (by kernel_rfl) (by kernel_rfl) ?_
        simp only [List.take_succ_cons, List.take_zero, List.drop_succ_cons, List.drop_zero]
        repeat (go_big_quiet_step (fail))
        go_big_quiet_step (exact HU.out _)
        repeat (go_big_quiet_step (fail))
        refine wpQuiet_nil ?_
        rintro _ ⟨uq, rfl⟩
        obtain ⟨⟨v9, cv9⟩, fv9⟩ := hcl.out uq.val uq.ok
        have hN := hnext.out uq.val uq.ok
        rw [hyk] at hN
        have HN := Lib.hid hN
        clear hN hcl hnext HU v2 HPL hcr hyk
        generalize hwx : uq.val = wz at *
        clear hwx uq
        go_wp2_with fail
        go_roundw
        case rel => exact ⟨k + 1, by omega, by go_num, HN.out⟩
        case measure => simp [intOf]; omega
      · obtain rfl : L = k := by omega
        have d4 : decide ((L : Int) < (L : Int)) = false := by simp
        have HST := Lib.hid (MadeRel.str hrel (.inl rfl) L)
        obtain ⟨cs, _, _, _, _, Kz, _, hbw⟩ := hrel
        have hst := HST.out
        clear HST
        have c0 := Kz.cell 0
        have c1 := Kz.cell 1
        have c2 := Kz.cell 2
        have c3 := Kz.cell 3
        have f0 := Kz.frozen 0
        have f1 := Kz.frozen 1
        have f2 := Kz.frozen 2
        have f3 := Kz.frozen 3
        simp only [List.getElem?_toArray, List.getElem?_cons_succ, List.getElem?_cons_zero] at c0 c1 c2 c3
        have HKz := Lib.hid Kz
        have HBW := Lib.hid hbw
        clear Kz hbw
        go_wp2_with fail
        refine ret_struct1 (g := w.heap.size) (t := 23) (cs := #[.int .i64 (Wn : Int), .int .i64 (Hn : Int), .int .i64 B, .string ⟨(madeL ns n L).toArray⟩]) rfl rfl ?_ Try.underlying23 rfl rfl rfl ?_
        · exact (((HKz.out.set_ 0 (.int .i64 (Wn : Int))).set_ 1 (.int .i64 (Hn : Int))).set_ 2 (.int .i64 B)).set_ 3 (.string ⟨(madeL ns n L).toArray⟩)
        · exact ⟨rfl, by (repeat' (first | refine bset ?_ (by first | omega | (simp <;> omega)) _ | refine balloc ?_ _ | refine Below.drew ?_ | refine below_drewN ?_ _ | exact HBW.out | exact Below.refl _ _))⟩
    · have d3 : decide ((2 : Int) < (n : Int)) = false := by simp; omega
      have HST := Lib.hid (MadeRel.str hrel (.inr h2) L)
      obtain ⟨cs, _, _, _, _, Kz, _, hbw⟩ := hrel
      have hst := HST.out
      clear HST
      by_cases hlt : k < L
      · have d4 : decide ((k : Int) < (L : Int)) = true := by simp; omega
        have c0 := Kz.cell 0
        have c1 := Kz.cell 1
        have c2 := Kz.cell 2
        have c3 := Kz.cell 3
        have f0 := Kz.frozen 0
        have f1 := Kz.frozen 1
        have f2 := Kz.frozen 2
        have f3 := Kz.frozen 3
        simp only [List.getElem?_toArray, List.getElem?_cons_succ, List.getElem?_cons_zero] at c0 c1 c2 c3
        have HKz := Lib.hid Kz
        have HBW := Lib.hid hbw
        clear Kz hbw
        go_wp2_with fail
        refine ret_struct1 (g := w.heap.size) (t := 23) (cs := #[.int .i64 (Wn : Int), .int .i64 (Hn : Int), .int .i64 B, .string ⟨(madeL ns n L).toArray⟩]) rfl rfl ?_ Try.underlying23 rfl rfl rfl ?_
        · exact (((HKz.out.set_ 0 (.int .i64 (Wn : Int))).set_ 1 (.int .i64 (Hn : Int))).set_ 2 (.int .i64 B)).set_ 3 (.string ⟨(madeL ns n L).toArray⟩)
        · exact ⟨rfl, by (repeat' (first | refine bset ?_ (by first | omega | (simp <;> omega)) _ | refine balloc ?_ _ | refine Below.drew ?_ | refine below_drewN ?_ _ | exact HBW.out | exact Below.refl _ _))⟩
      · have d4 : decide ((k : Int) < (L : Int)) = false := by simp; omega
        have c0 := Kz.cell 0
        have c1 := Kz.cell 1
        have c2 := Kz.cell 2
        have c3 := Kz.cell 3
        have f0 := Kz.frozen 0
        have f1 := Kz.frozen 1
        have f2 := Kz.frozen 2
        have f3 := Kz.frozen 3
        simp only [List.getElem?_toArray, List.getElem?_cons_succ, List.getElem?_cons_zero] at c0 c1 c2 c3
        have HKz := Lib.hid Kz
        have HBW := Lib.hid hbw
        clear Kz hbw
        go_wp2_with fail
        refine ret_struct1 (g := w.heap.size) (t := 23) (cs := #[.int .i64 (Wn : Int), .int .i64 (Hn : Int), .int .i64 B, .string ⟨(madeL ns n L).toArray⟩]) rfl rfl ?_ Try.underlying23 rfl rfl rfl ?_
        · exact (((HKz.out.set_ 0 (.int .i64 (Wn : Int))).set_ 1 (.int .i64 (Hn : Int))).set_ 2 (.int .i64 B)).set_ 3 (.string ⟨(madeL ns n L).toArray⟩)
        · exact ⟨rfl, by (repeat' (first | refine bset ?_ (by first | omega | (simp <;> omega)) _ | refine balloc ?_ _ | refine Below.drew ?_ | refine below_drewN ?_ _ | exact HBW.out | exact Below.refl _ _))⟩

end Go.Proofs.Ytegpjjkbbdfggaa.im
