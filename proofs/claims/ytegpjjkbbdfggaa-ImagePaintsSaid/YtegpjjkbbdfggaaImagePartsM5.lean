/-
  Lemmas for ImageParts: LawPage, Ref30, RefRuns, LawMade, RSame, Lay1, Lay, LawIParts, OpenImage, OpenArr6.
-/
import Derived.BigQuiet
import Derived.BigRegion
import Derived.Laws.IdiomCopy
import Derived.Lib.SmallJoins
import Derived.Deep.Slices
import Derived.Deep.Fields
import Derived.Test.YtegpjjkbbdfggaaImagePartsM4

/-
  Pages by numbers: tympanlaw36.Page, side. (PRUNE)
-/
namespace Go.Proofs.Ytegpjjkbbdfggaa.rg
set_option linter.unusedVariables false
set_option linter.unusedSimpArgs false
open Go.RowKit bs sp ik op

theorem tmod_cases (v n : Int) (h0 : 0 < n) : ∃ q : Int, v.tmod n = q ∧ -n < q ∧ q < n ∧ (q < 0 → q + n = v % n) ∧ (0 ≤ q → q = v % n) := by
  refine ⟨_, rfl, ?_⟩
  rcases Int.lt_or_le v 0 with hv | hv
  · have e : v.tmod n = -((-v) % n) := by
      have := Int.neg_tmod (-v) n
      rw [Int.neg_neg] at this
      rw [this, Int.tmod_eq_emod_of_nonneg (by omega)]
    have b0 := Int.emod_nonneg (-v) (show n ≠ 0 by omega)
    have b1 := Int.emod_lt_of_pos (-v) h0
    have c0 := Int.emod_nonneg v (show n ≠ 0 by omega)
    have c1 := Int.emod_lt_of_pos v h0
    have d1 := Int.mul_ediv_add_emod (-v) n
    have d2 := Int.mul_ediv_add_emod v n
    rw [e]
    have key : (v % n = 0 ∧ (-v) % n = 0) ∨ v % n = n - (-v) % n := by
      have hs : n * ((-v) / n + v / n) = -((-v) % n + v % n) := by rw [Int.mul_add]; omega
      have hb : (-v) / n + v / n = 0 ∨ (-v) / n + v / n = -1 := by
        have h1 : n * ((-v) / n + v / n) ≤ 0 := by omega
        have h2 : -(2 * n) < n * ((-v) / n + v / n) := by omega
        have h3 : (-v) / n + v / n ≤ 0 := by
          rcases Int.lt_or_le 0 ((-v) / n + v / n) with h | h
          · have := Int.mul_pos h0 h; omega
          · exact h
        have h4 : -2 < (-v) / n + v / n := by
          rcases Int.lt_or_le (-2) ((-v) / n + v / n) with h | h
          · exact h
          · have := Int.mul_le_mul_of_nonneg_left h (show 0 ≤ n by omega); omega
        omega
      rcases hb with hb | hb <;> rw [hb] at hs <;> omega
    omega
  · rw [Int.tmod_eq_emod_of_nonneg hv]
    have b0 := Int.emod_nonneg v (show n ≠ 0 by omega)
    have b1 := Int.emod_lt_of_pos v h0
    omega

theorem place_any (v n : Int) (w : World) (h0 : 0 < n) (h1 : n ≤ 1152921504606846976) :
    Calls Try.prog 25 #[.int .i64 v, .int .i64 n] w fun e w' => e = .returned (.int .i64 (v % n)) ∧ w = w' := by
  have hne : (n == 0) = false := by simp; omega
  obtain ⟨q, hq, q0, q1, q2, q3⟩ := tmod_cases v n h0
  have Q2 := Lib.hid q2
  have Q3 := Lib.hid q3
  clear q2 q3
  go_enter Try.func25, Try.ntmps25
  go_wp2_with fail
  all_goals go_ret
  all_goals refine ⟨ret_int ?_, rfl⟩
  · exact Q2.out (by omega)
  · exact Q3.out (by omega)

/-- Page's loop: the bytes, the page's box, the result's box -/
def QRel (w : World) (n : Nat) (pv : Array Value) (wr : World) : Prop :=
  ∃ cs B, Blk wr (w.heap.size + 1) 5 cs ∧ Holds cs n B ∧ Blk wr (w.heap.size + 1 + 1) 46 pv ∧ Blk wr w.heap.size 46 #[.int .i64 0, .int .i64 0, .slice none 0 0] ∧ Below w.heap.size w wr
theorem QRel.below {w wr w' : World} {n : Nat} {pv : Array Value} (h : QRel w n pv wr) (hb : Below wr.heap.size wr w') : QRel w n pv w' := by
  obtain ⟨cs, B, h1, h2, h3, h4, h5⟩ := h
  exact ⟨cs, B, h1.below hb h1.lt, h2, h3.below hb h3.lt, h4.below hb h4.lt, btrans h5 hb⟩
theorem QRel.put {w wr : World} {n : Nat} {pv : Array Value} (h : QRel w n pv wr) (k : Nat) (v : Int) (h0 : 0 ≤ v) (h1 : v ≤ 255) : QRel w n pv (wr.setCell ⟨w.heap.size + 1, k, none⟩ (.int .u8 v)) := by
  obtain ⟨cs, B, h1', h2, h3, h4, h5⟩ := h
  exact ⟨_, _, h1'.set_ k _, h2.put k v h0 h1, h3.far (by simp) _, h4.far (by simp) _, bset h5 (by simp) _⟩
theorem QRel.start (w : World) (n : Nat) (pv : Array Value) : QRel w n pv (((w.alloc (.cells #[.int .i64 0, .int .i64 0, .slice none 0 0] 46)).alloc (.cells (madeCells #[.int .u8 0] n) 5)).alloc (.cells pv 46)) := by
  have b0 := Blk.new w 46 #[.int .i64 0, .int .i64 0, .slice none 0 0]
  have b1 := Blk.new (w.alloc (.cells #[.int .i64 0, .int .i64 0, .slice none 0 0] 46)) 5 (madeCells #[.int .u8 0] n)
  have b2 := Blk.new ((w.alloc (.cells #[.int .i64 0, .int .i64 0, .slice none 0 0] 46)).alloc (.cells (madeCells #[.int .u8 0] n) 5)) 46 pv
  have s1 : ∀ (u : World) (o : Obj), (u.alloc o).heap.size = u.heap.size + 1 := fun u o => by simp
  simp only [s1] at b1 b2
  exact ⟨_, fun _ => 0, b1.alloc _, ⟨by rw [size_madeCells]; omega, fun j hj => ⟨by simp [madeCells, hj, Nat.mod_one], Int.le_refl _, show (0 : Int) ≤ 255 by omega⟩⟩, b2, (b0.alloc _).alloc _, by (repeat' (first | exact Below.refl _ _ | exact Below.refl _ _ | refine balloc ?_ _ | refine Below.drew ?_ | refine below_drewN ?_ _ | refine bset ?_ (by first | omega | (simp <;> omega)) _))⟩

/-- the four bytes -/
def c4 (a : Nat) : Int := if a = 0 then 0 else if a = 1 then 255 else if a = 2 then 200 else 17
theorem c4_bd (a : Nat) : 0 ≤ c4 a ∧ c4 a ≤ 255 := by unfold c4; (repeat' split) <;> omega
theorem c4_get (a : Nat) (h : a < 4) : (#[.int .u8 0, .int .u8 255, .int .u8 200, .int .u8 17] : Array Value)[a]? = some (.int .u8 (c4 a)) := by
  rcases (show a = 0 ∨ a = 1 ∨ a = 2 ∨ a = 3 by omega) with rfl | rfl | rfl | rfl <;> rfl

set_option maxRecDepth 100000 in
set_option maxHeartbeats 3200000 in
theorem lpage_any (A : Option Addr) (n c : Nat) (ns : Nat → Int) (W H N : Nat) (w : World) (hr : Ints w A n c ns) (hn : n ≤ 9223372036854775807) (hW : 1 ≤ W ∧ W ≤ 64) (hH : 1 ≤ H ∧ H ≤ 64) (hN : N = 3 * (W * H)) :
    Calls Try.prog 28 #[.slice A n c, .int .i64 (W : Int), .int .i64 (H : Int)] w fun e w' => ∃ g B, e = .returned (.agg #[.int .i64 (W : Int), .int .i64 (H : Int), .slice (some ⟨g, 0, none⟩) N N]) ∧ Pg w' (some ⟨g, 0, none⟩) N N B ∧ Below w.heap.size w w' := by
  have hs := page_size hW hH
  rw [← hN] at hs
  obtain ⟨i0, hi, hz0, hz1, hz2⟩ := info_parts (show (Try.prog.info? 5).map (fun i => (i.zero, i.size, i.bytes)) = some (some (.int .u8 0), 1, 1) by kernel_rfl)
  have hmk := fun W => run_make_rowN (P := Try.prog) 44 5 i0 (.int .u8 0) Try.underlying44 hi hz0 .i64 .i64 N N (Nat.le_refl _) (by rw [hz2]; omega) (by omega) W
  simp only [hz1, Nat.mul_one] at hmk
  obtain ⟨M, hM⟩ : ∃ M, W * H = M := ⟨_, rfl⟩
  have hM1 : (W : Int) * (H : Int) = (M : Int) := by rw [← hM]; push_cast; rfl
  have hM2 : 3 * (W : Int) * (H : Int) = 3 * (M : Int) := by rw [Int.mul_assoc, hM1]
  have hN3 : N = 3 * M := by rw [hN, hM]
  have hN5 : ((N : Nat) : Int) = 3 * (M : Int) := by omega
  simp only [hN5] at hmk
  subst hN3
  have HST := Lib.hid (QRel.start w (3 * M) #[.int .i64 (W : Int), .int .i64 (H : Int), .slice (some ⟨w.heap.size + 1, 0, none⟩) (3 * M) (3 * M)])
  have HR := Lib.hid hr
  obtain ⟨w0, w1⟩ := hW
  obtain ⟨h0, h1⟩ := hH
  obtain ⟨s0, s1⟩ := hs
  clear hr hM hN
  go_enter Try.func28, Try.ntmps28
  go_wp2_with fail
  clear hmk hi hz0 hz1 hz2
  go_loopw [8] (fun kv wr => ∃ k : Nat, k ≤ M ∧ kv = .int .i64 (k : Int) ∧ QRel w (3 * M) #[.int .i64 (W : Int), .int .i64 (H : Int), .slice (some ⟨w.heap.size + 1, 0, none⟩) (3 * M) (3 * M)] wr) (fun kv _ => M - (intOf kv).toNat)
  case atStart => exact ⟨0, by omega, rfl, HST.out⟩
  case round =>
    clear HST
    obtain ⟨k, hk, rfl, hQ⟩ := hrel
    by_cases hgo : k < M ∧ 0 < n
    · obtain ⟨hlt, hn0⟩ := hgo
      have d1 : decide ((k : Int) < (M : Int)) = true := by simp; omega
      have d2 : decide ((0 : Int) < (n : Int)) = true := by simp; omega
      obtain ⟨hnc, hcell⟩ := HR.out
      obtain ⟨b, o, rfl, hbl, hcell⟩ := hcell hn0
      have hmodn : (k : Int).tmod (n : Int) = ((k % n : Nat) : Int) := by rw [Int.tmod_eq_emod_of_nonneg (by omega)]; push_cast; rfl
      have hdivn : (k : Int).tdiv (n : Int) = ((k / n : Nat) : Int) := by rw [Int.tdiv_eq_ediv_of_nonneg (by omega)]; push_cast; rfl
      have hrlt := Nat.mod_lt k hn0
      have hqle : k / n ≤ k := Nat.div_le_self k n
      generalize k % n = r at *
      generalize k / n = q at *
      have htm : (q : Int).tmod 12 = ((q % 12 : Nat) : Int) := by rw [Int.tmod_eq_emod_of_nonneg (by omega)]; push_cast; rfl
      have htl : q % 12 < 12 := Nat.mod_lt q (by omega)
      generalize q % 12 = t at *
      have hc := hcell r hrlt
      obtain ⟨x, hx⟩ : ∃ x, ns r = x := ⟨_, rfl⟩
      rw [hx] at hc
      have HPL := Lib.hid (fun W => place_any x 1048576 W (by decide) (by decide))
      obtain ⟨z, hz⟩ : ∃ z, x % 1048576 = z := ⟨_, rfl⟩
      have hz1 : 0 ≤ z ∧ z < 1048576 := by omega
      replace HPL : Hid (∀ W', Calls Try.prog 25 #[.int .i64 x, .int .i64 1048576] W' fun ed w' => ed = .returned (.int .i64 z) ∧ W' = w') := by have := HPL.out; rw [hz] at this; exact Lib.hid this
      have hmz : ((n : Int) == 0) = false := by simp; omega
      have hbw : Below w.heap.size w wr := by obtain ⟨_, _, _, _, _, _, h⟩ := hQ; exact h
      have hcr := (hbw.cell (p := ⟨b, o + r, none⟩) hbl).trans hc
      have hbr : b < wr.heap.size := Nat.lt_of_lt_of_le hbl hbw.size
      have HQ := Lib.hid hQ
      obtain ⟨hz10, hz11⟩ := hz1
      clear hQ hc hcell hx hz hbw
      have v2 : ∀ u : Up wr, u.val.cell? ⟨b, o + r, none⟩ = some (.int .i64 x) := fun u => (u.cell hbr).trans hcr
      have HU := Lib.hid (fun u : Up wr => up_same (u := u) (HPL.out u.val))
      obtain ⟨y, hy⟩ : ∃ y : Nat, z / 2 ^ t = (y : Int) := ⟨(z / 2 ^ t).toNat, by have := Int.ediv_nonneg hz10 (show (0 : Int) ≤ 2 ^ t from Int.le_of_lt (Int.pow_pos (by omega))); omega⟩
      go_wp2_with fail
      refine wp_region_up (by kernel_rfl) (by kernel_rfl) ?_
      repeat (go_big_quiet_step (fail))
      go_big_quiet_step (exact HU.out _)
      repeat (go_big_quiet_step (fail))
      refine wpQuiet_nil ?_
      rintro _ ⟨uq, rfl⟩
      have hQ := HQ.out.below uq.ok
      clear HQ v2 HU HPL hcr hbr hmodn hdivn htm
      generalize hwx : uq.val = wz at *
      clear hwx uq
      have hy2 : (y : Int).tdiv 2 = ((y / 2 : Nat) : Int) := by rw [Int.tdiv_eq_ediv_of_nonneg (by omega)]; push_cast; rfl
      have hy4 : (y : Int).tdiv 4 = ((y / 4 : Nat) : Int) := by rw [Int.tdiv_eq_ediv_of_nonneg (by omega)]; push_cast; rfl
      have m0 : (y : Int).tmod 4 = ((y % 4 : Nat) : Int) := by rw [Int.tmod_eq_emod_of_nonneg (by omega)]; push_cast; rfl
      have m1 : ((y / 2 : Nat) : Int).tmod 4 = ((y / 2 % 4 : Nat) : Int) := by rw [Int.tmod_eq_emod_of_nonneg (by omega)]; push_cast; rfl
      have m2 : ((y / 4 : Nat) : Int).tmod 4 = ((y / 4 % 4 : Nat) : Int) := by rw [Int.tmod_eq_emod_of_nonneg (by omega)]; push_cast; rfl
      have l0 : y % 4 < 4 := Nat.mod_lt _ (by omega)
      have l1 : y / 2 % 4 < 4 := Nat.mod_lt _ (by omega)
      have l2 : y / 4 % 4 < 4 := Nat.mod_lt _ (by omega)
      have b2 : y / 2 ≤ y := Nat.div_le_self _ _
      have b4 : y / 4 ≤ y := Nat.div_le_self _ _
      generalize y % 4 = a0 at *
      generalize y / 2 % 4 = a1 at *
      generalize y / 4 % 4 = a2 at *
      generalize y / 2 = y2 at *
      generalize y / 4 = y4 at *
      have hy9 : y ≤ 1048576 := by
        have h1 : z / 2 ^ t ≤ z := Int.ediv_le_self _ hz10
        omega
      have hQ2 : QRel w (3 * M) #[.int .i64 (W : Int), .int .i64 (H : Int), .slice (some ⟨w.heap.size + 1, 0, none⟩) (3 * M) (3 * M)] (wz.alloc (.cells #[.int .u8 0, .int .u8 255, .int .u8 200, .int .u8 17] 103)) := hQ.below (by (repeat' (first | exact Below.refl _ _ | exact Below.refl _ _ | refine balloc ?_ _ | refine Below.drew ?_ | refine below_drewN ?_ _ | refine bset ?_ (by first | omega | (simp <;> omega)) _)))
      have ha := Blk.new wz 103 #[.int .u8 0, .int .u8 255, .int .u8 200, .int .u8 17]
      obtain ⟨ab, hab⟩ : ∃ ab, wz.heap.size = ab := ⟨_, rfl⟩
      rw [hab] at ha
      have hne : ab ≠ w.heap.size + 1 := by obtain ⟨_, _, h1, _⟩ := hQ; have := h1.lt; omega
      go_wp2_with fail
      generalize hwx : wz.alloc (.cells #[.int .u8 0, .int .u8 255, .int .u8 200, .int .u8 17] 103) = wy at *
      clear hwx hab
      obtain ⟨cs, B, q1, q2, q3, q4, q5⟩ := id hQ2
      have e0 := (ha.cell a0).trans (c4_get a0 l0)
      have e1 := (ha.cell a1).trans (c4_get a1 l1)
      have e2 := (ha.cell a2).trans (c4_get a2 l2)
      have p2 := q3.cell 2
      simp only [List.getElem?_toArray, List.getElem?_cons_succ, List.getElem?_cons_zero] at p2
      have g0 : wy.cell? ⟨w.heap.size + 1, 3 * k, none⟩ = some (.int .u8 (B (3 * k))) := by rw [q1.cell]; exact (q2.2 _ (by omega)).1
      have g1 : wy.cell? ⟨w.heap.size + 1, 3 * k + 1, none⟩ = some (.int .u8 (B (3 * k + 1))) := by rw [q1.cell]; exact (q2.2 _ (by omega)).1
      have g2 : wy.cell? ⟨w.heap.size + 1, 3 * k + 2, none⟩ = some (.int .u8 (B (3 * k + 2))) := by rw [q1.cell]; exact (q2.2 _ (by omega)).1
      have f0 := q1.frozen (3 * k)
      have f1 := q1.frozen (3 * k + 1)
      have f2 := q1.frozen (3 * k + 2)
      have HQ := Lib.hid hQ2
      have h0 := c4_bd a0
      have h1 := c4_bd a1
      have h2 := c4_bd a2
      generalize c4 a0 = d0 at *
      generalize c4 a1 = d1 at *
      generalize c4 a2 = d2 at *
      have H0 := Lib.hid h0
      have H1 := Lib.hid h1
      have H2 := Lib.hid h2
      generalize B (3 * k) = z0 at *
      generalize B (3 * k + 1) = z1 at *
      generalize B (3 * k + 2) = z2 at *
      have wk0 : IntKind.i64.wrap (3 * (k : Int)) = 3 * (k : Int) := by simp only [IntKind.wrap, IntKind.signed, IntKind.bits]; simp; omega
      have j0 : (0 : Int) ≤ 3 * (k : Int) := by omega
      have j1 : 3 * (k : Int) + 2 < 3 * (M : Int) := by omega
      have t0 : (3 * (k : Int)).toNat = 3 * k := by omega
      have t1 : (3 * (k : Int) + 1).toNat = 3 * k + 1 := by omega
      have t2 : (3 * (k : Int) + 2).toNat = 3 * k + 2 := by omega
      clear q1 q2 q3 q4 q5 ha hQ hQ2 h0 h1 h2 hy
      go_region
      have hN := ((HQ.out.put (3 * k) d0 H0.out.1 H0.out.2).put (3 * k + 1) d1 H1.out.1 H1.out.2).put (3 * k + 2) d2 H2.out.1 H2.out.2
      have HN := Lib.hid (hN.below (Below.drew (Below.refl _ _)))
      clear hN HQ H0 H1 H2 e0 e1 e2 g0 g1 g2 f0 f1 f2 p2
      go_wp2_with fail
      go_roundw
      case rel => exact ⟨k + 1, by omega, by go_num, HN.out⟩
      case measure => simp [intOf]; omega
    · obtain ⟨cs, B, q1, q2, q3, q4, q5⟩ := hQ
      have p0 := q3.cell 0
      have p1 := q3.cell 1
      have p2 := q3.cell 2
      have z0 := q4.cell 0
      have z1 := q4.cell 1
      have z2 := q4.cell 2
      have f0 := q4.frozen 0
      have f1 := q4.frozen 1
      have f2 := q4.frozen 2
      simp only [List.getElem?_toArray, List.getElem?_cons_succ, List.getElem?_cons_zero] at p0 p1 p2 z0 z1 z2
      have Q1 := Lib.hid q1
      have Q2 := Lib.hid q2
      have Q4 := Lib.hid q4
      have HBW := Lib.hid q5
      clear q1 q2 q3 q4 q5
      by_cases h : k < M
      · have d1 : decide ((k : Int) < (M : Int)) = true := by simp; omega
        have d2 : decide ((0 : Int) < (n : Int)) = false := by simp; omega
        go_wp2_with fail
        have K := ((Q4.out.set_ 0 (.int .i64 (W : Int))).set_ 1 (.int .i64 (H : Int))).set_ 2 (.slice (some ⟨w.heap.size + 1, 0, none⟩) (3 * M) (3 * M))
        refine ret_struct1 (g := w.heap.size) (t := 46) (cs := #[.int .i64 (W : Int), .int .i64 (H : Int), .slice (some ⟨w.heap.size + 1, 0, none⟩) (3 * M) (3 * M)]) rfl rfl ?_ Try.underlying46 rfl rfl rfl ?_
        · exact K
        · exact ⟨w.heap.size + 1, B, rfl, Q2.out.pg (((Q1.out.far (p := ⟨_, 0, none⟩) (by simp) _).far (p := ⟨_, 1, none⟩) (by simp) _).far (p := ⟨_, 2, none⟩) (by simp) _) (Nat.le_refl _), by (repeat' (first | refine bset ?_ (by first | omega | (simp <;> omega)) _ | refine balloc ?_ _ | refine Below.drew ?_ | refine below_drewN ?_ _ | exact HBW.out | exact Below.refl _ _))⟩
      · have d1 : decide ((k : Int) < (M : Int)) = false := by simp; omega
        go_wp2_with fail
        have K := ((Q4.out.set_ 0 (.int .i64 (W : Int))).set_ 1 (.int .i64 (H : Int))).set_ 2 (.slice (some ⟨w.heap.size + 1, 0, none⟩) (3 * M) (3 * M))
        refine ret_struct1 (g := w.heap.size) (t := 46) (cs := #[.int .i64 (W : Int), .int .i64 (H : Int), .slice (some ⟨w.heap.size + 1, 0, none⟩) (3 * M) (3 * M)]) rfl rfl ?_ Try.underlying46 rfl rfl rfl ?_
        · exact K
        · exact ⟨w.heap.size + 1, B, rfl, Q2.out.pg (((Q1.out.far (p := ⟨_, 0, none⟩) (by simp) _).far (p := ⟨_, 1, none⟩) (by simp) _).far (p := ⟨_, 2, none⟩) (by simp) _) (Nat.le_refl _), by (repeat' (first | refine bset ?_ (by first | omega | (simp <;> omega)) _ | refine balloc ?_ _ | refine Below.drew ?_ | refine below_drewN ?_ _ | exact HBW.out | exact Below.refl _ _))⟩
end Go.Proofs.Ytegpjjkbbdfggaa.rg

/-
  The reference for runs (tympanref30): the contracts of Cut, Places, Of, May. (PRUNE)
-/
namespace Go.Proofs.Ytegpjjkbbdfggaa.sp
set_option linter.unusedVariables false
set_option linter.unusedSimpArgs false
open Go.RowKit bs

set_option maxRecDepth 100000 in
theorem rcut_any (v : Int) (w : World) : Calls Try.prog 115 #[.int .i64 v] w fun e w' => e = .returned (.int .i64 (max 0 (min v 64))) ∧ w = w' := by
  obtain ⟨p, hp, p0⟩ : ∃ p, (if v < 0 then 0 else v) = p ∧ p = max v 0 := ⟨_, rfl, by split <;> omega⟩
  obtain ⟨p', hp', p0'⟩ : ∃ p, (if 0 < v then v else 0) = p ∧ p = max v 0 := ⟨_, rfl, by split <;> omega⟩
  go_enter Try.func115, Try.ntmps115
  go_wp2_with fail
  all_goals go_ret
  all_goals exact ⟨ret_int (by omega), rfl⟩

/-- in the middle of a run: the places from a on, below i, are laid -/
def PlIn (W : World) (r p : Nat) (S : Nat → Bool) (hi : Int) (a : Nat) (iv : Value) (wr : World) : Prop :=
  ∃ i : Nat, a ≤ i ∧ ((i : Int) ≤ hi ∨ i = a) ∧ iv = .int .i64 i ∧ OfRel 114 W r p (fun j => S j || (decide (a ≤ j) && decide (j < i))) wr
theorem PlIn.step {W wr : World} {r p a i : Nat} {S : Nat → Bool} {hi : Int} (ha : a ≤ i) (hi64 : hi ≤ 64) (hlt : (i : Int) < hi)
    (h : OfRel 114 W r p (fun j => S j || (decide (a ≤ j) && decide (j < i))) wr) :
    PlIn W r p S hi a (.int .i64 ((i : Int) + 1)) (wr.setCell ⟨p, i, none⟩ (.bool true)) := by
  refine ⟨i + 1, by omega, by omega, by go_num, (h.set (by omega)).ext fun j hj => ?_⟩
  by_cases e : j = i
  · subst e; simp [ha]
  · rw [if_neg e]
    congr 2
    by_cases h2 : j < i
    · simp [h2]; omega
    · simp [h2]; omega

set_option maxRecDepth 100000 in
set_option maxHeartbeats 1600000 in
theorem places_any (A : Option Addr) (n c : Nat) (l : List (Int × Int)) (w : World) (hr : Runs w A n c l) (hn : n ≤ 9223372036854775807) :
    Calls Try.prog 79 #[.slice A n c] w fun e w' => e = .returned (.agg (rowC (inRuns l))) ∧ Below w.heap.size w w' := by
  go_enter Try.func79, Try.ntmps79
  go_wp2_with fail
  go_loopw [4] (fun kv wr => ∃ k : Nat, k ≤ n ∧ kv = .int .i64 k ∧ OfRel 114 w w.heap.size (w.heap.size + 1) (inRuns (l.take k)) wr) (fun kv _ => n - (intOf kv).toNat)
  case atStart => exact ⟨0, by omega, rfl, OfRel.start _ w⟩
  case round =>
    obtain ⟨k, hk, rfl, hrel⟩ := hrel
    by_cases hlt : k < n
    · have dk : decide (k < n) = true := by simp; omega
      have dk2 : decide ((k : Int) < (n : Int)) = true := by simp; omega
      have hrr := hr
      obtain ⟨hl, hnc, hcell⟩ := hr
      obtain ⟨b, o, rfl, hb, hcell⟩ := hcell (by omega)
      have hkl : k < l.length := by omega
      obtain ⟨c1, c2⟩ := hcell k hkl
      have ht := inRuns_take l k hkl
      generalize l[k].1 = x at *
      generalize l[k].2 = y at *
      have c1' := (hrel.2.2.2.2.cell (p := ⟨b, o + k * 2, none⟩) hb).trans c1
      obtain ⟨hi, hhi, hi1, hi2, hi3⟩ : ∃ hi, max 0 (min y 64) = hi ∧ hi ≤ 64 ∧ (hi ≤ y ∨ hi = 0) ∧ (hi = 64 ∨ hi = y ∨ hi = 0) := ⟨_, rfl, by omega, by omega, by omega⟩
      obtain ⟨lo, hlo, lo1, lo2⟩ : ∃ lo, max 0 (min x 64) = lo ∧ 0 ≤ lo ∧ lo ≤ 64 := ⟨_, rfl, by omega, by omega⟩
      obtain ⟨a, rfl⟩ := Int.eq_ofNat_of_zero_le lo1
      have HT := Lib.hid ht
      clear ht hcell hl hrr
      go_wp2_with (go_at_call 115; refine (rcut_any _ _).mono ?_; rintro e w' ⟨rfl, rfl⟩)
      clear c1'
      go_loopw [5] (fun iv wi => PlIn w w.heap.size (w.heap.size + 1) (inRuns (l.take k)) hi a iv wi) (fun iv _ => 64 - (intOf iv).toNat)
      case atStart => exact ⟨a, by omega, .inr rfl, rfl, hrel.ext (fun j _ => by by_cases h : a ≤ j <;> simp [h]; omega)⟩
      case round =>
        obtain ⟨i, hai, hih, rfl, hof⟩ := hrel
        have c2' := (hof.2.2.2.2.cell (p := ⟨b, o + k * 2 + 1, none⟩) hb).trans c2
        by_cases hin : (i : Int) < hi
        · have hnext := PlIn.step hai hi1 hin hof
          obtain ⟨f1, f2⟩ := hof.cell (i := i) (by omega)
          have hi64 : i < 64 := by omega
          go_wp2_with (go_at_call 115; refine (rcut_any _ _).mono ?_; rintro e w' ⟨rfl, rfl⟩)
          go_roundw
          case rel => exact hnext
          case measure => simp [intOf]; omega
        · go_wp2_with (go_at_call 115; refine (rcut_any _ _).mono ?_; rintro e w' ⟨rfl, rfl⟩)
          go_roundw
          case rel =>
            refine ⟨k + 1, by omega, by go_num, hof.ext fun j hj => ?_⟩
            rw [HT.out]
            congr 1
            by_cases h1 : x ≤ (j : Int)
            · by_cases h2 : (j : Int) < y
              · simp [h1, h2]; omega
              · simp [h1, h2]; omega
            · simp [h1]; omega
          case measure => simp [intOf]; omega
    · obtain rfl : k = n := by omega
      have hin : inRuns (l.take k) = inRuns l := inRuns_all l k (by have := hr.1; omega)
      rw [hin] at hrel
      obtain ⟨h1, h2, h3, h4, h5⟩ := hrel
      go_wp2_with (first
        | (refine wpList_load_row rfl 114 (.tmp 3) rfl _ rfl _ _ _ _ h2 Try.underlying114 rfl (by rw [rowC_size]; kernel_rfl) ?_)
        | (refine wpList_store_row rfl 114 (.tmp 2) (.tmp 30) rfl _ (rowC (inRuns l)) rfl rfl _ _ h1 (by rw [rowC_size]; kernel_rfl) (by rw [rowC_size, rowC_size]) (rowC_one _) ?_))
      exact ret_struct1 rfl rfl (h1.row _) Try.underlying114 rfl (by rw [rowC_size]; kernel_rfl) rfl ⟨rfl, brow h5 h3 _⟩

def ofB (k : Int) (x y : Bool) : Bool := if k = 1 then x || y else if k = 2 then x && y else if k = 3 then x && !y else x != y
end Go.Proofs.Ytegpjjkbbdfggaa.sp

/-
  The reference for runs: the contract of Runs. (PRUNE)
-/
namespace Go.Proofs.Ytegpjjkbbdfggaa.sp
set_option linter.unusedVariables false
set_option linter.unusedSimpArgs false
open Go.RowKit bs

def RrRel (W : World) (S : Nat → Bool) (i : Nat) (v : Value) (wr : World) : Prop :=
  OwnRuns wr (W.heap.size + 1) v (rl S i) ∧ Blk wr W.heap.size 114 (rowC S) ∧ Below W.heap.size W wr
theorem RrRel.own {W wr : World} {S : Nat → Bool} {i : Nat} {v : Value} (h : RrRel W S i v wr) (o : Obj) : (wr.alloc o).ownsRow (W.heap.size + 1) 109 2 v (rl S i).length (flat (rl S i)) := World.ownsRow.alloc h.1 o
theorem RrRel.small {W wr : World} {S : Nat → Bool} {i : Nat} {v : Value} (h : RrRel W S i v wr) (hi : i ≤ 64) : (rl S i).length ≤ 64 ∧ W.heap.size + 1 ≤ wr.heap.size :=
  ⟨by have := (rl_len S i).1; omega, h.2.1.lt⟩
theorem RrRel.skip {W wr : World} {S : Nat → Bool} {i : Nat} {v : Value} (h : RrRel W S i v wr) (hS : S i = false) : RrRel W S (i + 1) v wr := by
  obtain ⟨h1, h2, h3⟩ := h
  exact ⟨by rw [rl_no hS]; exact h1, h2, h3⟩
theorem st_first {S : Nat → Bool} {i : Nat} (h : i = 0 ∨ S (i - 1) = false) : (st S i).2 = none := by
  cases i with
  | zero => rfl
  | succ q => 
    rcases h with h | h
    · cases h
    · rw [st_no (by simpa using h)]
theorem RrRel.put {W wr w1 : World} {S : Nat → Bool} {i : Nat} {v v1 : Value} (h : RrRel W S i v wr) (hS : S i = true) (hf : i = 0 ∨ S (i - 1) = false)
    (hown : w1.ownsRow (W.heap.size + 1) 109 2 v1 ((rl S i).length + 1) (flat (rl S i) ++ [.int .i64 i, .int .i64 ((i : Int) + 1)]))
    {o : Obj} (hg : (wr.alloc o).grownBy w1 v.ownBlock) : RrRel W S (i + 1) v1 w1 := by
  obtain ⟨h1, h2, h3⟩ := h
  have e : rl S (i + 1) = rl S i ++ [((i : Int), ((i + 1 : Nat) : Int))] :=
    rl_grow (st_first hf) (by omega) (fun j a b => by obtain rfl : j = i := by omega
                                                      exact hS)
  have hne : ∀ k, v.ownBlock = some k → W.heap.size + 1 ≤ k := fun k hk => (h1.lt k hk).1
  refine ⟨?_, ?_, ?_⟩
  · unfold OwnRuns
    rw [e]
    simpa [flat] using hown
  · exact ((h2.alloc o).grown hg (fun e => by have := hne _ e.symm; omega))
  · exact (h3.alloc h3.size o).grown hg (by have := h3.size; simp; omega) (fun k hk => by have := hne k hk; omega)
theorem st_open {S : Nat → Bool} {q : Nat} (h : S q = true) : ∃ f, (st S (q + 1)).2 = some f := ⟨_, by rw [st_yes h]⟩
theorem RrRel.more {W wr : World} {S : Nat → Bool} {q : Nat} {v : Value} (h : RrRel W S (q + 1) v wr) (hS : S (q + 1) = true) (hp : S q = true) :
    ∃ g m cap, v = .slice (some ⟨g, 0, none⟩) (m + 1) cap ∧ m ≤ q ∧ (∃ u, wr.cell? ⟨g, m * 2 + 1, none⟩ = some u) ∧ wr.frozen? ⟨g, m * 2 + 1, none⟩ = false ∧
      RrRel W S (q + 1 + 1) v (wr.setCell ⟨g, m * 2 + 1, none⟩ (.int .i64 ((q : Int) + 1 + 1))) := by
  obtain ⟨h1, h2, h3⟩ := h
  obtain ⟨f, hf⟩ := st_open hp
  have e1 : rl S (q + 1) = (st S (q + 1)).1 ++ [((f : Int), ((q + 1 : Nat) : Int))] := by
    show close (st S (q + 1)).1 (q + 1) (st S (q + 1)).2 = _
    rw [hf]; rfl
  have e2 : rl S (q + 1 + 1) = (st S (q + 1)).1 ++ [((f : Int), ((q + 1 + 1 : Nat) : Int))] := by
    show close (st S (q + 1 + 1)).1 (q + 1 + 1) (st S (q + 1 + 1)).2 = _
    rw [st_yes hS, hf]; rfl
  have hlen := (rl_len S (q + 1)).1
  generalize hd : (st S (q + 1)).1 = d at *
  have hl : (rl S (q + 1)).length = d.length + 1 := by rw [e1]; simp
  unfold OwnRuns at h1
  rw [hl] at h1
  obtain ⟨g, cap, hv, hcap, hlt⟩ := h1.form (by omega)
  subst hv
  have hcell := h1.cellAt (d.length * 2 + 1) (by omega)
  have hfz := h1.frozenAt (d.length * 2 + 1)
  have hst := h1.stored (d.length * 2 + 1) (.int .i64 ((q : Int) + 1 + 1))
  have hg := (h1.lt g rfl).1
  refine ⟨g, d.length, cap, rfl, by omega, ⟨.int .i64 ((q + 1 : Nat) : Int), ?_⟩, hfz, ?_, h2.far (by show W.heap.size ≠ g; omega) _, bset h3 (by show W.heap.size ≤ g; omega) _⟩
  · rw [hcell, e1, flat_append, List.getElem?_append_right (by rw [flat_len]; omega), flat_len]
    simp [flat]
  · unfold OwnRuns
    have e3 : (flat (rl S (q + 1))).set (d.length * 2 + 1) (.int .i64 ((q : Int) + 1 + 1)) = flat (rl S (q + 1 + 1)) := by
      rw [e1, e2, flat_append, flat_append, List.set_append_right _ _ (by rw [flat_len]; omega), flat_len]
      simp [flat]
    rw [e3] at hst
    have hl2 : (rl S (q + 1 + 1)).length = d.length + 1 := by rw [e2]; simp
    rw [hl2]
    exact hst.1

set_option maxRecDepth 100000 in
set_option maxHeartbeats 1600000 in
theorem rruns_own (S : Nat → Bool) (x : Int) (w : World) :
    Calls Try.prog 76 #[.agg (rowC S), .int .i64 x] w fun e w' => ∃ A c, e = .returned (.slice A (rl S (max 0 (min x 64)).toNat).length c) ∧ Runs w' A (rl S (max 0 (min x 64)).toNat).length c (rl S (max 0 (min x 64)).toNat) ∧ (∀ k, (Value.slice A (rl S (max 0 (min x 64)).toNat).length c).ownBlock = some k → w.heap.size ≤ k) ∧ Below w.heap.size w w' := by
  obtain ⟨i0, hi, hz0, hz1, hz2⟩ := info_parts (show (Try.prog.info? 109).map (fun i => (i.zero, i.size, i.bytes)) = some (some (.agg #[.int .i64 0, .int .i64 0]), 2, 16) by kernel_rfl)
  obtain ⟨m, hm, hm64⟩ : ∃ m : Nat, max 0 (min x 64) = (m : Int) ∧ m ≤ 64 := ⟨(max 0 (min x 64)).toNat, by omega, by omega⟩
  rw [hm, Int.toNat_natCast]
  go_enter Try.func76, Try.ntmps76
  go_wp2_with fail
  go_loopw [5, 6] (fun ov iv wr => ∃ i : Nat, i ≤ m ∧ iv = .int .i64 i ∧ RrRel w S i ov wr) (fun _ iv _ => 64 - (intOf iv).toNat)
  case atStart => exact ⟨0, by omega, rfl, ⟨by simp [rl_zero, flat], .inl ⟨rfl, rfl⟩⟩, Blk.new w _ _, balloc (Below.refl _ _) _⟩
  case round =>
    obtain ⟨i, him, rfl, hR⟩ := hrel
    by_cases hlt : i < m
    · have hcell : wr.cell? ⟨w.heap.size, i, none⟩ = some (.bool (S i)) := by rw [hR.2.1.cell, rowC_get S i (by omega)]
      obtain ⟨hsm1, hsm2⟩ := hR.small (by omega)
      have hi64 : i < 64 := by omega
      cases hS : S i with
      | false =>
        rw [hS] at hcell
        have hnext := hR.skip hS
        clear hS
        go_wp2_with (go_at_call 115; refine (rcut_any _ _).mono ?_; rintro e w' ⟨rfl, rfl⟩)
        go_roundw
        case rel => exact ⟨i + 1, by omega, by go_num, hnext⟩
        case measure => simp [intOf]; omega
      | true =>
        rw [hS] at hcell
        have HS := Lib.hid hS
        by_cases hfirst : i = 0 ∨ S (i - 1) = false
        · have HF := Lib.hid hfirst
          cases i with
          | zero =>
            clear hS hfirst
            go_wp2_with (first
              | (go_at_call 115; refine (rcut_any _ _).mono ?_; rintro e w' ⟨rfl, rfl⟩)
              | (at_builtin; refine wpList_append_own _ rfl (.tmp 33) (.tmp 38) _ rfl (w.heap.size + 1) 109 i0 _ 2 16 Try.underlying107 hi hz0 hz1 hz2 rfl (by omega) u5 _ _ rfl (hR.own _) ⟨wr.heap.size, 0, none⟩ 1 1 [.int .i64 ((0 : Nat) : Int), .int .i64 (((0 : Nat) : Int) + 1)] rfl rfl (two_new _ _ _ _) (by simp [Value.oneCell']) (by unfold maxLen; omega) (by omega) (by simp; omega) ?_; intro v1 w1 hown1 hg1 _))
            go_roundw
            case rel => exact ⟨0 + 1, by omega, by go_num, hR.put HS.out (.inl rfl) hown1 hg1⟩
            case measure => simp [intOf]
          | succ q =>
            have hq : S q = false := by rcases hfirst with h | h; · cases h
                                        · simpa using h
            have hcell2 : wr.cell? ⟨w.heap.size, q, none⟩ = some (.bool false) := by rw [hR.2.1.cell, rowC_get S q (by omega), hq]
            clear hS hfirst hq
            go_wp2_with (first
              | (go_at_call 115; refine (rcut_any _ _).mono ?_; rintro e w' ⟨rfl, rfl⟩)
              | (at_builtin; refine wpList_append_own _ rfl (.tmp 33) (.tmp 38) _ rfl (w.heap.size + 1) 109 i0 _ 2 16 Try.underlying107 hi hz0 hz1 hz2 rfl (by omega) u5 _ _ rfl (hR.own _) ⟨wr.heap.size, 0, none⟩ 1 1 [.int .i64 ((q + 1 : Nat) : Int), .int .i64 (((q + 1 : Nat) : Int) + 1)] rfl rfl (two_new _ _ _ _) (by simp [Value.oneCell']) (by unfold maxLen; omega) (by omega) (by simp; omega) ?_; intro v1 w1 hown1 hg1 _))
            go_roundw
            case rel => exact ⟨q + 1 + 1, by omega, by go_num, hR.put HS.out HF.out hown1 hg1⟩
            case measure => simp [intOf]; omega
        · cases i with
          | zero => exact absurd (.inl rfl) hfirst
          | succ q =>
            have hq : S q = true := by
              cases h : S q with
              | true => rfl
              | false => exact absurd (.inr (by simpa using h)) hfirst
            have hcell2 : wr.cell? ⟨w.heap.size, q, none⟩ = some (.bool true) := by rw [hR.2.1.cell, rowC_get S q (by omega), hq]
            obtain ⟨g, d, cap, rfl, hdq, ⟨u, hu⟩, hfz, hnext⟩ := hR.more hS hq
            clear hS hfirst hq
            go_wp2_with (go_at_call 115; refine (rcut_any _ _).mono ?_; rintro e w' ⟨rfl, rfl⟩)
            go_roundw
            case rel => exact ⟨q + 1 + 1, by omega, by go_num, hnext⟩
            case measure => simp [intOf]; omega
    · obtain rfl : i = m := by omega
      go_wp2_with (go_at_call 115; refine (rcut_any _ _).mono ?_; rintro e w' ⟨rfl, rfl⟩)
      go_ret
      obtain ⟨h1, h2, h3⟩ := hR
      obtain ⟨A, c, rfl, hr⟩ := h1.runs
      exact ⟨A, c, rfl, hr, fun k hk => by have := (h1.lt k hk).1; omega, h3⟩
theorem rruns_any (S : Nat → Bool) (x : Int) (w : World) :
    Calls Try.prog 76 #[.agg (rowC S), .int .i64 x] w fun e w' => ∃ A c, e = .returned (.slice A (rl S (max 0 (min x 64)).toNat).length c) ∧ Runs w' A (rl S (max 0 (min x 64)).toNat).length c (rl S (max 0 (min x 64)).toNat) ∧ Below w.heap.size w w' :=
  (rruns_own S x w).mono fun e w' ⟨A, c, he, hr, _, hb⟩ => ⟨A, c, he, hr, hb⟩
end Go.Proofs.Ytegpjjkbbdfggaa.sp

/-
  Regions by numbers: tympanlaw32.Made. (PRUNE)
-/
namespace Go.Proofs.Ytegpjjkbbdfggaa.rg
set_option linter.unusedVariables false
set_option maxRecDepth 100000
set_option linter.unusedSimpArgs false
open Go.RowKit bs sp ik op

theorem one_newR (w : World) (x : Value) (t : TypeId) : ∀ (j : Nat) (u : Value), [x][j]? = some u → (w.alloc (.cells #[x] t)).cell? ((⟨w.heap.size, 0, none⟩ : Addr).add j) = some u := by
  intro j u hu
  have hadd : (⟨w.heap.size, 0, none⟩ : Addr).add j = ⟨w.heap.size, j, none⟩ := by unfold Addr.add; split <;> simp_all
  rw [hadd, (Blk.new w t #[x]).cell]
  simpa using hu
/-- Made's rows behind k rounds -/
def MdRows (wr : World) (W k : Nat) (ov : Value) (R : Nat → Nat → Bool) (xs : List Value) : Prop :=
  ∀ j, j < k → ∃ Aj cj, xs[j]? = some (.slice Aj (rowsOf W R j).length cj) ∧ Runs wr Aj (rowsOf W R j).length cj (rowsOf W R j) ∧ (0 < (rowsOf W R j).length → ∀ q, (Value.slice Aj (rowsOf W R j).length cj).ownBlock = some q → ov.ownBlock ≠ some q)
def MdRel (w : World) (W k : Nat) (ov : Value) (wr : World) : Prop :=
  ∃ (R : Nat → Nat → Bool) (xs : List Value), wr.ownsRow (w.heap.size + 1) 107 1 ov k xs ∧ MdRows wr W k ov R xs ∧ Blk wr w.heap.size 51 #[.int .i64 0, .int .i64 0, .slice none 0 0] ∧ Below w.heap.size w wr
theorem own_below {w w' : World} {base size n : Nat} {e : TypeId} {v : Value} {xs : List Value} (h : w.ownsRow base e size v n xs) (hb : Below w.heap.size w w') : w'.ownsRow base e size v n xs := by
  obtain ⟨h1, h2⟩ := h
  refine ⟨h1, ?_⟩
  rcases h2 with h2 | ⟨g, cap, cur, a1, a2, a3, a4⟩
  · exact .inl h2
  · exact .inr ⟨g, cap, cur, a1, a2, (show Blk w' g e cur from Blk.below a3 hb (Blk.lt a3)), a4⟩
theorem MdRel.below {w wr w' : World} {W k : Nat} {ov : Value} (h : MdRel w W k ov wr) (hb : Below wr.heap.size wr w') : MdRel w W k ov w' := by
  obtain ⟨R, xs, h1, h2, h3, h4⟩ := h
  refine ⟨R, xs, own_below h1 hb, fun j hj => ?_, h3.below hb h3.lt, btrans h4 hb⟩
  obtain ⟨Aj, cj, a1, a2, a3⟩ := h2 j hj
  exact ⟨Aj, cj, a1, a2.below hb, a3⟩
theorem Runs.grown {w w' : World} {A : Option Addr} {n c : Nat} {l : List (Int × Int)} {row : Option Nat} (h : Runs w A n c l) (hg : w.grownBy w' row) (hne : 0 < n → ∀ q, (Value.slice A n c).ownBlock = some q → row ≠ some q) : Runs w' A n c l := by
  obtain ⟨h1, h2, h3⟩ := h
  refine ⟨h1, h2, fun hn => ?_⟩
  obtain ⟨b, o, e, hlt, hc⟩ := h3 hn
  subst e
  have hb : w'.heap[b]? = w.heap[b]? := hg.block b hlt (fun e => hne hn b rfl e.symm)
  refine ⟨b, o, rfl, Nat.lt_of_lt_of_le hlt hg.size, fun j hj => ?_⟩
  obtain ⟨q1, q2⟩ := hc j hj
  exact ⟨(World.cell?_of_block (a := ⟨b, _, none⟩) hb).trans q1, (World.cell?_of_block (a := ⟨b, _, none⟩) hb).trans q2⟩
theorem Runs.lt {w : World} {A : Option Addr} {n c : Nat} {l : List (Int × Int)} (h : Runs w A n c l) (hn : 0 < n) (q : Nat) (hq : (Value.slice A n c).ownBlock = some q) : q < w.heap.size := by
  obtain ⟨b, o, e, hlt, hc⟩ := h.2.2 hn
  subst e
  simp [Value.ownBlock] at hq
  omega
theorem md_put {w wr w1 : World} {W k : Nat} {ov v1 : Value} {S : Nat → Bool} {A : Option Addr} {c : Nat} {o : Obj} {R : Nat → Nat → Bool} {xs : List Value} (h1 : wr.ownsRow (w.heap.size + 1) 107 1 ov k xs) (h2 : MdRows wr W k ov R xs)
    (h3 : Blk wr w.heap.size 51 #[.int .i64 0, .int .i64 0, .slice none 0 0]) (h4 : Below w.heap.size w wr) (hr : Runs wr A (rl S W).length c (rl S W)) (hf : 0 < (rl S W).length → ∀ q, (Value.slice A (rl S W).length c).ownBlock = some q → ov.ownBlock ≠ some q)
    (hown : w1.ownsRow (w.heap.size + 1) 107 1 v1 (k + 1) (xs ++ [.slice A (rl S W).length c])) (hg : (wr.alloc o).grownBy w1 ov.ownBlock) (hv : v1.ownBlock = ov.ownBlock ∨ v1.ownBlock = some (wr.alloc o).heap.size) : MdRel w W (k + 1) v1 w1 := by
  have hxl : xs.length = k := by simpa using h1.1
  have ap : ∀ {A : Option Addr} {n c : Nat} {l : List (Int × Int)}, Runs wr A n c l → (0 < n → ∀ q, (Value.slice A n c).ownBlock = some q → ov.ownBlock ≠ some q) → 0 < n → ∀ q, (Value.slice A n c).ownBlock = some q → v1.ownBlock ≠ some q := by
    intro A n c l hr hf hn q hq
    rcases hv with hv | hv
    · rw [hv]; exact hf hn q hq
    · have h5 := Runs.lt hr hn q hq
      rw [hv]
      simp
      omega
  have ga : ∀ {A : Option Addr} {n c : Nat} {l : List (Int × Int)}, Runs wr A n c l → (0 < n → ∀ q, (Value.slice A n c).ownBlock = some q → ov.ownBlock ≠ some q) → Runs w1 A n c l := fun hr hf => Runs.grown (hr.below (balloc (Below.refl _ _) o)) hg hf
  have hlo : ∀ q, ov.ownBlock = some q → w.heap.size + 1 ≤ q := fun q hq => (h1.lt q hq).1
  refine ⟨fun j => if j = k then S else R j, _, hown, fun j hj => ?_, (h3.alloc o).grown hg (fun e => by have := hlo _ e.symm; omega), Below.grown (balloc h4 o) hg (by have := h4.size; simp; omega) (fun q hq => by have := hlo q hq; omega)⟩
  by_cases e : j = k
  · subst e
    have er : rowsOf W (fun i => if i = j then S else R i) j = rl S W := by unfold rowsOf; simp
    rw [er]
    exact ⟨A, c, by rw [List.getElem?_append_right (by omega), hxl, Nat.sub_self]; rfl, ga hr hf, ap hr hf⟩
  · have er : rowsOf W (fun i => if i = k then S else R i) j = rowsOf W R j := by unfold rowsOf; simp [e]
    rw [er]
    obtain ⟨Aj, cj, a1, a2, a3⟩ := h2 j (by omega)
    exact ⟨Aj, cj, by rw [List.getElem?_append_left (by omega)]; exact a1, ga a2 a3, ap a2 a3⟩
theorem MdRel.rows {w wr : World} {W k : Nat} {ov : Value} (h : MdRel w W k ov wr) (hk : 0 < k) (hW : W ≤ 64) :
    ∃ g cap R, ov = .slice (some ⟨g, 0, none⟩) k cap ∧ Rows wr (some ⟨g, 0, none⟩) k cap (rowsOf W R) ∧ w.heap.size + 1 ≤ g := by
  obtain ⟨R, xs, h1, h2, h3, h4⟩ := h
  obtain ⟨g, cap, cs, hv, hg, hB, hcap, hs, ht⟩ := own_out hk h1
  refine ⟨g, cap, R, hv, ⟨hcap, fun _ => ⟨g, 0, rfl, hB.lt, fun j hj => ?_⟩⟩, hg⟩
  obtain ⟨Aj, cj, a1, a2, a3⟩ := h2 j hj
  refine ⟨by have := rowsOf_len W R j hW; omega, Aj, cj, ?_, a2⟩
  rw [Nat.zero_add, hB.cell]
  rw [← ht, List.getElem?_take, if_pos hj] at a1
  simpa using a1

theorem rows_box {w : World} {r : Nat} {t : TypeId} {g H c : Nat} {W : Nat} {R : Nat → Nat → Bool} (h : Rows w (some ⟨g, 0, none⟩) H c (rowsOf W R)) (hne : g ≠ r) (K : Blk w r t #[.int .i64 0, .int .i64 0, .slice none 0 0]) (u0 u1 u2 : Value) :
    Rows (((w.setCell ⟨r, 0, none⟩ u0).setCell ⟨r, 1, none⟩ u1).setCell ⟨r, 2, none⟩ u2) (some ⟨g, 0, none⟩) H c (rowsOf W R) := by
  obtain ⟨h1, h2⟩ := h
  refine ⟨h1, fun hn => ?_⟩
  obtain ⟨b, o, e, hlt, hc⟩ := h2 hn
  cases e
  refine ⟨g, 0, rfl, by simpa using hlt, fun j hj => ?_⟩
  obtain ⟨hl, Aj, cj, q1, q2⟩ := hc j hj
  have far : ∀ (v : World) (o1 o2 : Nat) (u : Value), (v.setCell ⟨r, o1, none⟩ u).cell? ⟨g, o2, none⟩ = v.cell? ⟨g, o2, none⟩ := fun v o1 o2 u => World.cell?_setCell_other v _ _ u (fun e => hne (Addr.mk.inj e).1.symm)
  exact ⟨hl, Aj, cj, by rw [far, far, far]; exact q1, Runs.setBox q2 (fun s hs => (may_each (rowsOf_may W R j) s hs).2.1) K _ _ _⟩

set_option maxRecDepth 100000 in
set_option maxHeartbeats 3200000 in
theorem lmade_any (A : Option Addr) (n c : Nat) (ns : Nat → Int) (W H : Nat) (w : World) (hr : Ints w A n c ns) (hn : n ≤ 9223372036854775807) (hW : 1 ≤ W ∧ W ≤ 64) (hH : 1 ≤ H ∧ H ≤ 64) :
    Calls Try.prog 46 #[.slice A n c, .int .i64 (W : Int), .int .i64 (H : Int)] w fun e w' => ∃ D d R, e = .returned (.agg #[.int .i64 (W : Int), .int .i64 (H : Int), .slice D H d]) ∧ Rows w' D H d (rowsOf W R) ∧ Below w.heap.size w w' := by
  obtain ⟨i0, hi, hz0, hz1, hz2⟩ := info_parts (show (Try.prog.info? 107).map (fun i => (i.zero, i.size, i.bytes)) = some (some (.slice none 0 0), 1, 24) by kernel_rfl)
  have HR := Lib.hid hr
  have Kz := Blk.new w 51 #[.int .i64 0, .int .i64 0, .slice none 0 0]
  have HST := Lib.hid (show MdRel w W 0 (.slice none 0 0) (w.alloc (.cells #[.int .i64 0, .int .i64 0, .slice none 0 0] 51)) from ⟨fun _ _ => false, [], ⟨rfl, .inl ⟨rfl, rfl⟩⟩, fun j hj => absurd hj (by omega), Kz, balloc (Below.refl _ _) _⟩)
  obtain ⟨w0, w1⟩ := hW
  obtain ⟨h0, h1⟩ := hH
  clear hr Kz
  go_enter Try.func46, Try.ntmps46
  go_wp2_with fail
  go_loopw [7, 8] (fun ov kv wr => ∃ k : Nat, k ≤ H ∧ kv = .int .i64 (k : Int) ∧ MdRel w W k ov wr) (fun _ kv _ => H - (intOf kv).toNat)
  case atStart => exact ⟨0, by omega, rfl, HST.out⟩
  case round =>
    clear HST
    obtain ⟨k, hk, rfl, hM⟩ := hrel
    obtain ⟨wo, rfl⟩ : ∃ wo, wo = wr := ⟨_, rfl⟩
    by_cases hlt : k < H
    · have d1 : decide ((k : Int) < (H : Int)) = true := by simp; omega
      have HM := Lib.hid hM
      have hbz : Below w.heap.size w wo := by obtain ⟨_, _, _, _, _, h⟩ := hM; exact h
      clear hM
      go_wp2_with fail
      have hS0 : Blk (wo.alloc (.cells (Array.replicate 64 (.bool false)) 114)) wo.heap.size 114 (rowC fun _ => false) := by rw [← rowC_zero]; exact Blk.new _ _ _
      have HS0 := Lib.hid hS0
      clear hS0
      go_loopw [10] (fun iv wi => ∃ (i : Nat) (S : Nat → Bool), i ≤ W ∧ iv = .int .i64 (i : Int) ∧ Blk wi wo.heap.size 114 (rowC S) ∧ Below wo.heap.size wo wi) (fun iv _ => W - (intOf iv).toNat)
      case atStart => exact ⟨0, _, by omega, rfl, HS0.out, balloc (Below.refl _ _) _⟩
      case round =>
        clear HS0
        obtain ⟨i, S, hi9, rfl, hB, hbo⟩ := hrel
        by_cases hgo : i < W ∧ 0 < n
        · obtain ⟨hil, hn0⟩ := hgo
          have d2 : decide ((i : Int) < (W : Int)) = true := by simp; omega
          have d3 : decide ((0 : Int) < (n : Int)) = true := by simp; omega
          obtain ⟨hnc, hcell⟩ := HR.out
          obtain ⟨b, o, rfl, hbl, hcell⟩ := hcell hn0
          have hmodn : ((i : Int) + 3 * (k : Int)).tmod (n : Int) = (((i + 3 * k) % n : Nat) : Int) := by rw [Int.tmod_eq_emod_of_nonneg (by omega)]; push_cast; rfl
          have hdivn : (i : Int).tdiv (n : Int) = ((i / n : Nat) : Int) := by rw [Int.tdiv_eq_ediv_of_nonneg (by omega)]; push_cast; rfl
          have hrlt := Nat.mod_lt (i + 3 * k) hn0
          have hqle : i / n ≤ i := Nat.div_le_self i n
          generalize (i + 3 * k) % n = r at *
          generalize i / n = q1 at *
          obtain ⟨p, hp⟩ : ∃ p, i * k = p := ⟨_, rfl⟩
          have hp1 : (i : Int) * (k : Int) = (p : Int) := by rw [← hp]; push_cast; rfl
          have hp2 : p ≤ 4096 := by rw [← hp]; exact Nat.mul_le_mul (show i ≤ 64 by omega) (show k ≤ 64 by omega)
          clear hp
          have htm : ((p : Int) + (q1 : Int) + (k : Int)).tmod 17 = (((p + q1 + k) % 17 : Nat) : Int) := by rw [Int.tmod_eq_emod_of_nonneg (by omega)]; push_cast; rfl
          have htl : (p + q1 + k) % 17 < 17 := Nat.mod_lt _ (by omega)
          generalize (p + q1 + k) % 17 = t at *
          have hc := hcell r hrlt
          obtain ⟨x, hx⟩ : ∃ x, ns r = x := ⟨_, rfl⟩
          rw [hx] at hc
          have HPL := Lib.hid (fun W => place_any x 1048576 W (by decide) (by decide))
          obtain ⟨z, hz⟩ : ∃ z, x % 1048576 = z := ⟨_, rfl⟩
          have hz1 : 0 ≤ z ∧ z < 1048576 := by omega
          rw [hz] at HPL
          have hmz : ((n : Int) == 0) = false := by simp; omega
          have hcr := ((btrans hbz hbo).cell (p := ⟨b, o + r, none⟩) hbl).trans hc
          have hbc : wr.cell? ⟨wo.heap.size, i, none⟩ = some (.bool (S i)) := by rw [hB.cell, rowC_get S i (by omega)]
          have hbf := hB.frozen i
          have HB := Lib.hid hB
          obtain ⟨hz10, hz11⟩ := hz1
          clear hB hc hcell hx hz
          go_wp2_with (go_at_call 25; refine (HPL.out _).mono ?_; rintro e_ w_ ⟨rfl, rfl⟩)
          have hb2 := HB.out.set_ i (.bool (bits BinOp.and IntKind.i64 (z / 2 ^ t) 1 == 1))
          rw [rowC_set S i (by omega)] at hb2
          exact ⟨⟨i + 1, _, by omega, by go_num, hb2, bset hbo (Nat.le_refl _) _⟩, by simp [intOf]; omega⟩
        · have HRU := Lib.hid (fun W' => rruns_own S (W : Int) W')
          rw [show (max 0 (min (W : Int) 64)).toNat = W by omega] at HRU
          have HBO := Lib.hid hbo
          have HB := Lib.hid hB
          clear hbo
          have hfin : ∀ w2, Below wo.heap.size wo w2 → MdRel w W k u7 w2 := fun w2 hb => HM.out.below hb
          have HFIN := Lib.hid hfin
          have hOV : ∀ q, u7.ownBlock = some q → q < wo.heap.size := fun q hq => by
            obtain ⟨R, xs, o1, _⟩ := HM.out
            exact (o1.lt q hq).2
          clear hfin
          have d : (decide ((i : Int) < (W : Int)) = false) ∨ (decide ((i : Int) < (W : Int)) = true ∧ decide ((0 : Int) < (n : Int)) = false) := by
            by_cases h : i < W
            · right; simp; omega
            · left; simp; omega
          have HOV := Lib.hid hOV
          clear hOV hB
          rcases d with d2 | ⟨d2, d3⟩
          all_goals
            go_wp2_with (first
              | (refine wpList_load_row rfl 114 (.tmp 9) rfl _ rfl _ _ _ _ HB.out Try.underlying114 rfl (by rw [rowC_size]; kernel_rfl) ?_))
            all_goals
              refine (HRU.out _).mono ?_
              rintro e_ w2 ⟨A2, c2, rfl, hr2, hf2, hb2⟩
              have hbo := btrans HBO.out hb2
              obtain ⟨R, xs, o1, o2, o3, o4⟩ := HFIN.out w2 hbo
              have hxo := World.ownsRow.alloc o1 (.cells #[.slice A2 (rl S W).length c2] 107)
              have hsz2 : w.heap.size + 1 ≤ w2.heap.size := o3.lt
              have hsz3 := HBO.out.size
              have hfr : 0 < (rl S W).length → ∀ q, (Value.slice A2 (rl S W).length c2).ownBlock = some q → u7.ownBlock ≠ some q := fun _ q hq e => by
                have h1 := hf2 q hq
                have h2 := HOV.out q e
                omega
              have HPUT := Lib.hid (fun v1 w1 => md_put (v1 := v1) (w1 := w1) (o := .cells #[.slice A2 (rl S W).length c2] 107) o1 o2 o3 o4 hr2 hfr)
              have HXO := Lib.hid hxo
              clear HM HFIN HBO HB HRU hr2 hf2 hb2 hbo o1 o2 o3 o4 hxo hfr HOV
              generalize (rl S W).length = ln at *
              go_wp2_with (at_builtin; refine wpList_append_own_at _ rfl (.tmp 56) (.tmp 60) 49 rfl (w.heap.size + 1) 107 i0 (.slice none 0 0) 1 24 Try.underlying49 hi hz0 hz1 hz2 rfl (by omega) u7 k xs rfl HXO.out ⟨w2.heap.size, 0, none⟩ 1 1 [.slice A2 ln c2] rfl rfl (one_newR _ _ _) (by simp [Value.oneCell']) (by simp [maxLen]; omega) (by omega) (by first | (simp; done) | (simp; omega)) ?_; intro v1 w1 hown1 hg1 _ hv1)
              exact ⟨⟨k + 1, by omega, by go_num, HPUT.out v1 w1 hown1 hg1 hv1⟩, by simp [intOf]; omega⟩
    · obtain rfl : k = H := by omega
      have d1 : decide ((k : Int) < (k : Int)) = false := by simp
      obtain ⟨g, cap, R, rfl, hrw, hg⟩ := hM.rows (by omega) w1
      obtain ⟨_, _, _, _, q4, q5⟩ := hM
      have z0 := q4.cell 0
      have z1 := q4.cell 1
      have z2 := q4.cell 2
      have f0 := q4.frozen 0
      have f1 := q4.frozen 1
      have f2 := q4.frozen 2
      simp only [List.getElem?_toArray, List.getElem?_cons_succ, List.getElem?_cons_zero] at z0 z1 z2
      have Q4 := Lib.hid q4
      have HBW := Lib.hid q5
      have HRW := Lib.hid hrw
      clear q4 q5 hrw
      go_wp2_with fail
      have K := ((Q4.out.set_ 0 (.int .i64 (W : Int))).set_ 1 (.int .i64 (k : Int))).set_ 2 (.slice (some ⟨g, 0, none⟩) k cap)
      refine ret_struct1 (g := w.heap.size) (t := 51) (cs := #[.int .i64 (W : Int), .int .i64 (k : Int), .slice (some ⟨g, 0, none⟩) k cap]) rfl rfl ?_ Try.underlying51 rfl rfl rfl ?_
      · exact K
      · exact ⟨_, _, R, rfl, rows_box HRW.out (by omega) Q4.out _ _ _, by (repeat' (first | refine bset ?_ (by first | omega | (simp <;> omega)) _ | refine balloc ?_ _ | refine Below.drew ?_ | refine below_drewN ?_ _ | exact HBW.out | exact Below.refl _ _))⟩
end Go.Proofs.Ytegpjjkbbdfggaa.rg

/-
  region.Same of regions that are alike. (PRUNE)
-/
namespace Go.Proofs.Ytegpjjkbbdfggaa.rg
set_option linter.unusedVariables false
set_option linter.unusedSimpArgs false
open Go.RowKit bs sp ik

/-- the loops of region.Same: nothing but its two boxes matters -/
def SRel (w : World) (ca cb : Array Value) (wr : World) : Prop :=
  Blk wr w.heap.size 51 ca ∧ Blk wr (w.heap.size + 1) 51 cb ∧ Below w.heap.size w wr
theorem SRel.below {w wr w' : World} {ca cb : Array Value} (h : SRel w ca cb wr) (hb : Below wr.heap.size wr w') : SRel w ca cb w' := ⟨h.1.below hb h.1.lt, h.2.1.below hb h.2.1.lt, btrans h.2.2 hb⟩

set_option maxRecDepth 100000 in
set_option maxHeartbeats 3200000 in
theorem rsame_yes (W H c d : Nat) (A D : Option Addr) (R S : Nat → Nat → Bool) (w : World) (hW : 1 ≤ W ∧ W ≤ 64) (hH : 1 ≤ H ∧ H ≤ 64) (ha : Rows w A H c (rowsOf W R)) (hb : Rows w D H d (rowsOf W S)) (hRS : ∀ j, j < H → ∀ i, i < W → R j i = S j i) :
    Calls Try.prog 54 #[.agg #[.int .i64 (W : Int), .int .i64 (H : Int), .slice A H c], .agg #[.int .i64 (W : Int), .int .i64 (H : Int), .slice D H d]] w fun e w' => e = .returned (.bool true) ∧ Below w.heap.size w w' := by
  replace hb : Rows w D H d (rowsOf W R) := hb.ext fun j hj => (rowsOf_ext (fun i hi => hRS j hj i hi)).symm
  clear hRS
  obtain ⟨hac, ha⟩ := ha
  obtain ⟨ab, ao, rfl, hal, ha⟩ := ha (by omega)
  obtain ⟨hbc, hb⟩ := hb
  obtain ⟨bb, bo, rfl, hbl, hb⟩ := hb (by omega)
  have HA := Lib.hid ha
  have HB := Lib.hid hb
  have hst : SRel w #[.int .i64 (W : Int), .int .i64 (H : Int), .slice (some ⟨ab, ao, none⟩) H c] #[.int .i64 (W : Int), .int .i64 (H : Int), .slice (some ⟨bb, bo, none⟩) H d] ((w.alloc (.cells #[.int .i64 (W : Int), .int .i64 (H : Int), .slice (some ⟨ab, ao, none⟩) H c] 51)).alloc (.cells #[.int .i64 (W : Int), .int .i64 (H : Int), .slice (some ⟨bb, bo, none⟩) H d] 51)) := by
    have b2 := Blk.new (w.alloc (.cells #[.int .i64 (W : Int), .int .i64 (H : Int), .slice (some ⟨ab, ao, none⟩) H c] 51)) 51 #[.int .i64 (W : Int), .int .i64 (H : Int), .slice (some ⟨bb, bo, none⟩) H d]
    have s1 : ∀ (u : World) (o : Obj), (u.alloc o).heap.size = u.heap.size + 1 := fun u o => by simp
    simp only [s1] at b2
    exact ⟨(Blk.new _ _ _).alloc _, b2, by (repeat' (first | exact Below.refl _ _ | exact Below.refl _ _ | refine balloc ?_ _ | refine Below.drew ?_ | refine below_drewN ?_ _ | refine bset ?_ (by first | omega | (simp <;> omega)) _))⟩
  have HST := Lib.hid hst
  obtain ⟨h0, h1⟩ := hH
  clear ha hb hst hW
  go_enter Try.func54, Try.ntmps54
  go_wp2_with fail
  go_loopw [32] (fun kv wr => ∃ k : Nat, k ≤ H ∧ kv = .int .i64 (k : Int) ∧ SRel w #[.int .i64 (W : Int), .int .i64 (H : Int), .slice (some ⟨ab, ao, none⟩) H c] #[.int .i64 (W : Int), .int .i64 (H : Int), .slice (some ⟨bb, bo, none⟩) H d] wr) (fun kv _ => H - (intOf kv).toNat)
  case atStart => exact ⟨0, by omega, rfl, HST.out⟩
  case round =>
    clear HST
    obtain ⟨k, hk, rfl, hS⟩ := hrel
    by_cases hlt : k < H
    · have d1 : decide ((k : Int) < (H : Int)) = true := by simp; omega
      obtain ⟨hlen, A1, c1, q1, r1⟩ := HA.out k hlt
      obtain ⟨_, A2, c2, q2, r2⟩ := HB.out k hlt
      obtain ⟨L, hL⟩ : ∃ L, rowsOf W R k = L := ⟨_, rfl⟩
      rw [hL] at hlen q1 q2 r1 r2
      clear hL
      obtain ⟨ns, hns⟩ : ∃ ns, L.length = ns := ⟨_, rfl⟩
      rw [hns] at hlen q1 q2 r1 r2
      have HNS := Lib.hid hns
      have x1 := (hS.2.2.cell (p := ⟨ab, ao + k, none⟩) hal).trans q1
      have x2 := (hS.2.2.cell (p := ⟨bb, bo + k, none⟩) hbl).trans q2
      have s2 := hS.1.cell 2
      have t2 := hS.2.1.cell 2
      simp only [List.getElem?_toArray, List.getElem?_cons_succ, List.getElem?_cons_zero] at s2 t2
      have HR1 := Lib.hid r1
      have HR2 := Lib.hid r2
      have HQ2 := Lib.hid q2
      have HS := Lib.hid hS
      clear q1 q2 r1 r2 hns hS
      have hk2 : (k : Int) < (H : Int) := by omega
      have hk0 : (0 : Int) ≤ (k : Int) := by omega
      go_wp2_with fail
      go_quiet (fail)
      go_wp2_with fail
      go_loopw [54] (fun tv wi => ∃ t : Nat, t ≤ ns ∧ tv = .int .i64 (t : Int) ∧ SRel w #[.int .i64 (W : Int), .int .i64 (H : Int), .slice (some ⟨ab, ao, none⟩) H c] #[.int .i64 (W : Int), .int .i64 (H : Int), .slice (some ⟨bb, bo, none⟩) H d] wi) (fun tv _ => ns - (intOf tv).toNat)
      case atStart => exact ⟨0, by omega, rfl, HS.out.below (by (repeat' (first | exact Below.refl _ _ | exact Below.refl _ _ | refine balloc ?_ _ | refine Below.drew ?_ | refine below_drewN ?_ _ | refine bset ?_ (by first | omega | (simp <;> omega)) _)))⟩
      case round =>
        clear HS s2 t2 x1 x2
        obtain ⟨t, ht, rfl, hS⟩ := hrel
        by_cases htl : t < ns
        · have d2 : decide ((t : Int) < (ns : Int)) = true := by simp; omega
          obtain ⟨_, _, p3⟩ := HR1.out.below hS.2.2
          obtain ⟨y, oy, rfl, hy, hc⟩ := p3 (by omega)
          obtain ⟨c1, c2⟩ := hc t (by rw [HNS.out]; exact htl)
          obtain ⟨_, _, p4⟩ := HR2.out.below hS.2.2
          obtain ⟨z, oz, rfl, hz, hd⟩ := p4 (by omega)
          obtain ⟨c3, c4⟩ := hd t (by rw [HNS.out]; exact htl)
          have x2 := (hS.2.2.cell (p := ⟨bb, bo + k, none⟩) hbl).trans HQ2.out
          have hb2 := Nat.lt_of_lt_of_le hbl hS.2.2.size
          have t2 := hS.2.1.cell 2
          have lt2 := hS.2.1.lt
          simp only [List.getElem?_toArray, List.getElem?_cons_succ, List.getElem?_cons_zero] at t2
          generalize L[t].1 = e1 at *
          generalize L[t].2 = e2 at *
          have HN := Lib.hid fun (wz : World) (hb : Below wr.heap.size wr wz) => hS.below hb
          have hbx := Blk.new wr 109 #[.int .i64 e1, .int .i64 e2]
          have y0 := hbx.cell 0
          have y1 := hbx.cell 1
          simp only [List.getElem?_toArray, List.getElem?_cons_succ, List.getElem?_cons_zero] at y0 y1
          have ht2 : (t : Int) < (ns : Int) := by omega
          have ht0 : (0 : Int) ≤ (t : Int) := by omega
          have n1 : ¬ y = wr.heap.size := by omega
          have n2 : ¬ z = wr.heap.size := by omega
          have n3 : ¬ bb = wr.heap.size := by omega
          have n4 : ¬ w.heap.size + 1 = wr.heap.size := by omega
          clear hc hd p3 p4 hS hbx
          go_wp2_with fail
          have eb1 : (e1 == e1) = true := by simp
          have eb2 : (e2 == e2) = true := by simp
          go_quiet (fail)
          go_wp2_with fail
          go_roundw
          case rel => exact ⟨t + 1, by omega, by go_num, HN.out _ (by (repeat' (first | exact Below.refl _ _ | exact Below.refl _ _ | refine balloc ?_ _ | refine Below.drew ?_ | refine below_drewN ?_ _ | refine bset ?_ (by first | omega | (simp <;> omega)) _)))⟩
          case measure => simp [intOf]; omega
        · obtain rfl : t = ns := by omega
          have d2 : decide ((t : Int) < (t : Int)) = false := by simp
          have HS := Lib.hid hS
          clear hS
          go_wp2_with fail
          go_roundw
          case rel => exact ⟨k + 1, by omega, by go_num, HS.out⟩
          case measure => simp [intOf]; omega
    · obtain rfl : k = H := by omega
      have d1 : decide ((k : Int) < (k : Int)) = false := by simp
      go_wp2_with fail
      go_ret
      exact ⟨rfl, hS.2.2⟩
end Go.Proofs.Ytegpjjkbbdfggaa.rg

/-
  Lay's closure: a pixel's three bytes are copied. (PRUNE)
-/
namespace Go.Proofs.Ytegpjjkbbdfggaa.rg
set_option linter.unusedVariables false
set_option linter.unusedSimpArgs false
open Go.RowKit bs sp ik

/-- what the two boxes and the two pages hold while Lay goes on -/
def LRel (g n pB qB : Nat) (pv qv : Array Value) (b o d : Nat) (C B : Nat → Int) (wr : World) : Prop :=
  ∃ cs, Blk wr g 5 cs ∧ Holds cs n B ∧ Blk wr pB 46 pv ∧ Blk wr qB 46 qv ∧ Pg wr (some ⟨b, o, none⟩) n d C
theorem LRel.below {g n pB qB : Nat} {pv qv : Array Value} {b o d : Nat} {C B : Nat → Int} {wr w' : World} (h : LRel g n pB qB pv qv b o d C B wr) (hb : Below wr.heap.size wr w') : LRel g n pB qB pv qv b o d C B w' := by
  obtain ⟨cs, h1, h2, h3, h4, h5⟩ := h
  exact ⟨cs, h1.below hb h1.lt, h2, h3.below hb h3.lt, h4.below hb h4.lt, h5.below hb⟩
theorem LRel.ext {g n pB qB : Nat} {pv qv : Array Value} {b o d : Nat} {C B B' : Nat → Int} {wr : World} (h : LRel g n pB qB pv qv b o d C B wr) (e : ∀ j, j < n → B j = B' j) : LRel g n pB qB pv qv b o d C B' wr := by
  obtain ⟨cs, h1, h2, h3⟩ := h
  exact ⟨cs, h1, h2.ext e, h3⟩
theorem Pg.far {w : World} {b o n c g k : Nat} {B : Nat → Int} (h : Pg w (some ⟨b, o, none⟩) n c B) (hb : b ≠ g) (u : Value) : Pg (w.setCell ⟨g, k, none⟩ u) (some ⟨b, o, none⟩) n c B := by
  obtain ⟨h1, b', o', e, hlt, hx⟩ := h
  cases e
  refine ⟨h1, b, o, rfl, by simpa using hlt, fun j hj => ⟨?_, (hx j hj).2⟩⟩
  rw [World.cell?_setCell_other (h := fun e => hb (Addr.mk.inj e).1.symm)]
  exact (hx j hj).1
theorem LRel.put {g n pB qB : Nat} {pv qv : Array Value} {b o d : Nat} {C B : Nat → Int} {wr : World} (h : LRel g n pB qB pv qv b o d C B wr) (k : Nat) (v : Int) (h0 : 0 ≤ v) (h1 : v ≤ 255) (hp : pB ≠ g) (hq : qB ≠ g) (hb : b ≠ g) : LRel g n pB qB pv qv b o d C (fun j => if j = k then v else B j) (wr.setCell ⟨g, k, none⟩ (.int .u8 v)) := by
  obtain ⟨cs, h1', h2, h3, h4, h5⟩ := h
  exact ⟨_, h1'.set_ k _, h2.put k v h0 h1, h3.far hp _, h4.far hq _, h5.far hb _⟩
/-- three bytes from m on are C's -/
def cpy (m : Nat) (C B : Nat → Int) (j : Nat) : Int := if m ≤ j ∧ j < m + 3 then C j else B j

set_option maxRecDepth 100000 in
set_option maxHeartbeats 3200000 in
theorem lay1_any (g n f pB qB m b o d : Nat) (W H : Int) (C B : Nat → Int) (w : World) (hn : n ≤ 12288) (hnf : n ≤ f) (hm : m + 3 ≤ n) (hp : pB ≠ g) (hq : qB ≠ g) (hb : b ≠ g)
    (hR : LRel g n pB qB #[.int .i64 W, .int .i64 H, .slice (some ⟨g, 0, none⟩) n f] #[.int .i64 W, .int .i64 H, .slice (some ⟨b, o, none⟩) n d] b o d C B w) :
    Calls Try.prog 94 #[.int .i64 (m : Int), .pointer (some ⟨pB, 0, none⟩), .pointer (some ⟨qB, 0, none⟩)] w fun e w' => e = .returned (.tuple #[]) ∧
      LRel g n pB qB #[.int .i64 W, .int .i64 H, .slice (some ⟨g, 0, none⟩) n f] #[.int .i64 W, .int .i64 H, .slice (some ⟨b, o, none⟩) n d] b o d C (cpy m C B) w' ∧ w.grownBy w' (some g) := by
  obtain ⟨cs, h1, h2, h3, h4, h5⟩ := id hR
  have p2 := h3.cell 2
  have q2 := h4.cell 2
  simp only [List.getElem?_toArray, List.getElem?_cons_succ, List.getElem?_cons_zero] at p2 q2
  obtain ⟨hnd, _, _, e_, hlt, hx⟩ := id h5
  cases e_
  have g0 : w.cell? ⟨g, m, none⟩ = some (.int .u8 (B m)) := by rw [h1.cell]; exact (h2.2 m (by omega)).1
  have g1 : w.cell? ⟨g, m + 1, none⟩ = some (.int .u8 (B (m + 1))) := by rw [h1.cell]; exact (h2.2 (m + 1) (by omega)).1
  have g2 : w.cell? ⟨g, m + 2, none⟩ = some (.int .u8 (B (m + 2))) := by rw [h1.cell]; exact (h2.2 (m + 2) (by omega)).1
  have f0 := h1.frozen m
  have f1 := h1.frozen (m + 1)
  have f2 := h1.frozen (m + 2)
  obtain ⟨c0, c0a, c0b⟩ := hx m (by omega)
  obtain ⟨c1, c1a, c1b⟩ := hx (m + 1) (by omega)
  obtain ⟨c2, c2a, c2b⟩ := hx (m + 2) (by omega)
  rw [← Nat.add_assoc] at c1 c2
  have HX := Lib.hid hx
  have HR := Lib.hid hR
  obtain ⟨z0, hz0⟩ : ∃ z, C m = z := ⟨_, rfl⟩
  obtain ⟨z1, hz1⟩ : ∃ z, C (m + 1) = z := ⟨_, rfl⟩
  obtain ⟨z2, hz2⟩ : ∃ z, C (m + 2) = z := ⟨_, rfl⟩
  rw [hz0] at c0 c0a c0b
  rw [hz1] at c1 c1a c1b
  rw [hz2] at c2 c2a c2b
  have E0 := Lib.hid hz0
  have E1 := Lib.hid hz1
  have E2 := Lib.hid hz2
  clear hz0 hz1 hz2
  generalize B m = y0 at *
  generalize B (m + 1) = y1 at *
  generalize B (m + 2) = y2 at *
  have cx : ¬ f = m := by omega
  have cy : ¬ d = m := by omega
  have jw : IntKind.i64.wrap ((m : Int) + 3) = (m : Int) + 3 := by simp only [IntKind.wrap, IntKind.signed, IntKind.bits]; simp; omega
  have j0 : ((m : Int) + 3).toNat = m + 3 := by omega
  have j2 : m + 3 - m = 3 := by omega
  have j3 : m + 3 ≤ f := by omega
  have j4 : m + 3 ≤ d := by omega
  have hrun : ∀ ty, (Builtin.copy_ #[44, 44] ty #[.slice (some ⟨g, m, none⟩) 3 (f - m), .slice (some ⟨b, o + m, none⟩) 3 (d - m)]).run Try.prog w.drew = .ok (goInt 3) (((w.drew.setCell ⟨g, m, none⟩ (.int .u8 z0)).setCell ⟨g, m + 1, none⟩ (.int .u8 z1)).setCell ⟨g, m + 2, none⟩ (.int .u8 z2)) := fun ty => by
    refine run_copy_cells (P := Try.prog) w.drew 44 44 ty 5 g m 3 (f - m) ⟨b, o + m, none⟩ 3 (d - m) [.int .u8 z0, .int .u8 z1, .int .u8 z2] Try.underlying44 (by kernel_rfl) rfl (fun j v hj => ?_) (fun j hj => ?_) (fun j hj => ?_) (by simp [Value.oneCell'])
    · rw [Go.WideShapes.add_plain]
      rcases (show j = 0 ∨ j = 1 ∨ j = 2 ∨ 3 ≤ j by omega) with rfl | rfl | rfl | h
      · exact c0.trans hj
      · exact c1.trans hj
      · exact c2.trans hj
      · rw [List.getElem?_eq_none (by simpa using h)] at hj; cases hj
    · have hj3 : j < 3 := hj
      rcases (show j = 0 ∨ j = 1 ∨ j = 2 by omega) with rfl | rfl | rfl
      · exact congrArg Option.isSome g0
      · exact congrArg Option.isSome g1
      · exact congrArg Option.isSome g2
    · have hj3 : j < 3 := hj
      rcases (show j = 0 ∨ j = 1 ∨ j = 2 by omega) with rfl | rfl | rfl
      · exact f0
      · exact f1
      · exact f2
  have sN1 := hR.put m z0 c0a c0b hp hq hb
  have sN2 := sN1.put (m + 1) z1 c1a c1b hp hq hb
  have hN := sN2.put (m + 2) z2 c2a c2b hp hq hb
  clear sN1 sN2
  have sG1 : w.grownBy (w.setCell ⟨g, m, none⟩ (.int .u8 z0)) (some g) := only_setCell (World.grownBy.refl w (some g)) (p := ⟨g, m, none⟩) (.inl rfl) _
  have sG2 := only_setCell sG1 (p := ⟨g, m + 1, none⟩) (.inl rfl) (.int .u8 z1)
  have hG := only_setCell sG2 (p := ⟨g, m + 2, none⟩) (.inl rfl) (.int .u8 z2)
  clear sG1 sG2
  have HN := Lib.hid hN
  have HG := Lib.hid hG
  clear h1 h2 h3 h4 h5 hx hR hN hG
  go_enter Try.func94, Try.ntmps94
  go_wp2_with fail
  go_region
  go_wp2_with fail
  go_end0
  refine ⟨rfl, (LRel.below (HN.out.ext fun j hj => ?_) (Below.drew (Below.refl _ _))), only_drew HG.out⟩
  unfold cpy
  by_cases e2 : j = m + 2
  · subst e2; rw [if_pos rfl, if_pos (by omega), E2.out]
  · rw [if_neg e2]
    by_cases e1 : j = m + 1
    · subst e1; rw [if_pos rfl, if_pos (by omega), E1.out]
    · rw [if_neg e1]
      by_cases e0 : j = m
      · subst e0; rw [if_pos rfl, if_pos (by omega), E0.out]
      · rw [if_neg e0, if_neg (by omega)]
end Go.Proofs.Ytegpjjkbbdfggaa.rg

/-
  ink.Lay; region.Count of a region without a pixel. (PRUNE)
-/
namespace Go.Proofs.Ytegpjjkbbdfggaa.rg
set_option linter.unusedVariables false
set_option linter.unusedSimpArgs false
open Go.RowKit bs sp ik

/-- a page's bytes behind Lay, up to pixel p -/
def partL (W : Nat) (R : Nat → Nat → Bool) (B C : Nat → Int) (p j : Nat) : Int := if j / 3 < p ∧ R (j / 3 / W) (j / 3 % W) = true then C j else B j
/-- a page's bytes behind Lay -/
def layB (W : Nat) (R : Nat → Nat → Bool) (B C : Nat → Int) (j : Nat) : Int := if R (j / 3 / W) (j / 3 % W) = true then C j else B j
theorem partL_zero (W : Nat) (R : Nat → Nat → Bool) (B C : Nat → Int) (j : Nat) : B j = partL W R B C 0 j := by
  unfold partL; rw [if_neg (by omega)]
theorem partL_skip (W : Nat) (R : Nat → Nat → Bool) (B C : Nat → Int) (j i : Nat) (hi : i < W) (h : R j i = false) (t : Nat) : partL W R B C (j * W + i) t = partL W R B C (j * W + i + 1) t := by
  unfold partL
  by_cases e : t / 3 = j * W + i
  · obtain ⟨e1, e2⟩ := pix_of (j := j) hi
    rw [e, e1, e2, h]
    simp
  · have : t / 3 < j * W + i + 1 ↔ t / 3 < j * W + i := by omega
    simp only [this]
theorem partL_step (W : Nat) (R : Nat → Nat → Bool) (B C : Nat → Int) (j i : Nat) (hi : i < W) (h : R j i = true) (t : Nat) : cpy (3 * (j * W + i)) C (partL W R B C (j * W + i)) t = partL W R B C (j * W + i + 1) t := by
  unfold cpy
  by_cases e : t / 3 = j * W + i
  · obtain ⟨e1, e2⟩ := pix_of (j := j) hi
    rw [if_pos (by omega)]
    unfold partL
    rw [e, e1, e2, h, if_pos (by simp)]
  · rw [if_neg (by omega)]
    unfold partL
    have : t / 3 < j * W + i + 1 ↔ t / 3 < j * W + i := by omega
    simp only [this]
theorem partL_all (W H : Nat) (R : Nat → Nat → Bool) (B C : Nat → Int) (t : Nat) (ht : t < 3 * (W * H)) : partL W R B C (H * W) t = layB W R B C t := by
  unfold partL layB
  have h1 : t / 3 < H * W := by rw [Nat.mul_comm H W]; omega
  simp only [h1, true_and]
theorem lay_walks (g W H n f pB qB b o d : Nat) (R : Nat → Nat → Bool) (B C : Nat → Int) (hW : 1 ≤ W ∧ W ≤ 64) (hH : 1 ≤ H ∧ H ≤ 64) (hn : n = 3 * (W * H)) (hnf : n ≤ f) (hp : pB ≠ g) (hq : qB ≠ g) (hb : b ≠ g) :
    Walks g W H R 94 #[.pointer (some ⟨pB, 0, none⟩), .pointer (some ⟨qB, 0, none⟩)]
      (fun p => LRel g n pB qB #[.int .i64 (W : Int), .int .i64 (H : Int), .slice (some ⟨g, 0, none⟩) n f] #[.int .i64 (W : Int), .int .i64 (H : Int), .slice (some ⟨b, o, none⟩) n d] b o d C (partL W R B C p)) := by
  have hs := page_size hW hH
  refine ⟨fun p w1 w2 h hb => h.below hb, fun j i w1 hj hi h hr => hr.ext fun t _ => partL_skip W R B C j i hi h t, fun j i w1 hj hi h hr => ?_⟩
  have h3 := pix_in hj hi
  have := lay1_any g n f pB qB (3 * (j * W + i)) b o d W H C _ w1 (by omega) hnf (by omega) hp hq hb hr
  rw [show ((3 * (j * W + i) : Nat) : Int) = 3 * ((j * W + i : Nat) : Int) by push_cast; rfl] at this
  exact this.mono fun e w' ⟨h1, h2, h4⟩ => ⟨h1, h2.ext fun t _ => partL_step W R B C j i hi h t, h4⟩

set_option maxRecDepth 100000 in
set_option maxHeartbeats 3200000 in
theorem lay_any (W H n c d e : Nat) (A E D : Option Addr) (R : Nat → Nat → Bool) (B C : Nat → Int) (w : World) (hW : 1 ≤ W ∧ W ≤ 64) (hH : 1 ≤ H ∧ H ≤ 64) (hn : n = 3 * (W * H))
    (hp : Pg w A n c B) (hq : Pg w E n d C) (hr : Rows w D H e (rowsOf W R)) :
    Calls Try.prog 48 #[.agg #[.int .i64 (W : Int), .int .i64 (H : Int), .slice A n c], .agg #[.int .i64 (W : Int), .int .i64 (H : Int), .slice E n d], .agg #[.int .i64 (W : Int), .int .i64 (H : Int), .slice D H e]] w fun ed w' =>
      ∃ g f, w.heap.size ≤ g ∧ ed = .returned (.tuple #[.agg #[.int .i64 (W : Int), .int .i64 (H : Int), .slice (some ⟨g, 0, none⟩) n f], .int .i64 0]) ∧ Pg w' (some ⟨g, 0, none⟩) n f (layB W R B C) ∧ Below w.heap.size w w' := by
  have hmf := mkfunc
  have hs := page_size hW hH
  obtain ⟨hnd, b, o, rfl, hbl, _⟩ := id hq
  have HF := Lib.hid (fun W' (hW' : Below w.heap.size w W') => fits_yes W H n c e A D R W' hW hH hn (hr.below hW'))
  have HF2 := Lib.hid (fun W' (hW' : Below w.heap.size w W') => fits_yes W H n d e (some ⟨b, o, none⟩) D R W' hW hH hn (hr.below hW'))
  have HC := Lib.hid (fun W' (hW' : Below w.heap.size w W') => copied_any W H n c A B W' (by omega) (by omega) (hp.below hW'))
  have HWK := Lib.hid (fun g f hnf hk hq hb => lay_walks g W H n f w.heap.size (w.heap.size + 1) b o d R B C hW hH hn hnf hk hq hb)
  have HEA := Lib.hid (fun w2 g Rel hV hgV hgw hw h0 => each_any w w2 g W H e D R 94 #[.pointer (some ⟨w.heap.size, 0, none⟩), .pointer (some ⟨w.heap.size + 1, 0, none⟩)] Rel (fun args W => by kernel_rfl) hW.2 hH.2 hr hV hgV hgw hw h0)
  have HN := Lib.hid hn
  have HQ := Lib.hid hq
  have HBL := Lib.hid hbl
  have s1 : ∀ (u : World) (o : Obj), (u.alloc o).heap.size = u.heap.size + 1 := fun u o => by simp
  have Kp := (((Blk.new w 46 #[.int .i64 (W : Int), .int .i64 (H : Int), .slice A n c]).alloc (.cells #[.int .i64 (W : Int), .int .i64 (H : Int), .slice (some ⟨b, o, none⟩) n d] 46)).alloc (.cells #[.int .i64 (W : Int), .int .i64 (H : Int), .slice D H e] 51)).alloc (.cells #[.int .i64 0, .int .i64 0, .slice none 0 0] 46)
  have Kq := ((Blk.new (w.alloc (.cells #[.int .i64 (W : Int), .int .i64 (H : Int), .slice A n c] 46)) 46 #[.int .i64 (W : Int), .int .i64 (H : Int), .slice (some ⟨b, o, none⟩) n d]).alloc (.cells #[.int .i64 (W : Int), .int .i64 (H : Int), .slice D H e] 51)).alloc (.cells #[.int .i64 0, .int .i64 0, .slice none 0 0] 46)
  have Kr := (Blk.new ((w.alloc (.cells #[.int .i64 (W : Int), .int .i64 (H : Int), .slice A n c] 46)).alloc (.cells #[.int .i64 (W : Int), .int .i64 (H : Int), .slice (some ⟨b, o, none⟩) n d] 46)) 51 #[.int .i64 (W : Int), .int .i64 (H : Int), .slice D H e]).alloc (.cells #[.int .i64 0, .int .i64 0, .slice none 0 0] 46)
  have Kz := Blk.new (((w.alloc (.cells #[.int .i64 (W : Int), .int .i64 (H : Int), .slice A n c] 46)).alloc (.cells #[.int .i64 (W : Int), .int .i64 (H : Int), .slice (some ⟨b, o, none⟩) n d] 46)).alloc (.cells #[.int .i64 (W : Int), .int .i64 (H : Int), .slice D H e] 51)) 46 #[.int .i64 0, .int .i64 0, .slice none 0 0]
  simp only [s1] at Kq Kr Kz
  clear s1 hn hr hp hq hW hH hbl
  go_enter Try.func48, Try.ntmps48
  go_wp2_with fail
  refine (HF.out _ (by (repeat' (first | exact Below.refl _ _ | exact Below.refl _ _ | refine balloc ?_ _ | refine Below.drew ?_ | refine below_drewN ?_ _ | refine bset ?_ (by first | omega | (simp <;> omega)) _)))).mono ?_
  rintro e_ w1 ⟨rfl, hb1⟩
  have hbw : Below w.heap.size w w1 := btrans (by (repeat' (first | exact Below.refl _ _ | exact Below.refl _ _ | refine balloc ?_ _ | refine Below.drew ?_ | refine below_drewN ?_ _ | refine bset ?_ (by first | omega | (simp <;> omega)) _))) hb1
  replace Kp := Kp.below hb1 (by first | (simp; done) | (simp; omega))
  replace Kq := Kq.below hb1 (by first | (simp; done) | (simp; omega))
  replace Kr := Kr.below hb1 (by first | (simp; done) | (simp; omega))
  replace Kz := Kz.below hb1 (by first | (simp; done) | (simp; omega))
  have lKp := Kp.lt
  have lKq := Kq.lt
  have lKr := Kr.lt
  have lKz := Kz.lt
  have cKq0 := Kq.cell 0
  have cKq1 := Kq.cell 1
  have cKq2 := Kq.cell 2
  have cKr0 := Kr.cell 0
  have cKr1 := Kr.cell 1
  have cKr2 := Kr.cell 2
  simp only [List.getElem?_toArray, List.getElem?_cons_succ, List.getElem?_cons_zero] at cKq0 cKq1 cKq2 cKr0 cKr1 cKr2
  have HKp := Lib.hid Kp
  have HKq := Lib.hid Kq
  have HKr := Lib.hid Kr
  have HKz := Lib.hid Kz
  have HBW := Lib.hid hbw
  clear Kp Kq Kr Kz hbw hb1
  go_wp2_with fail
  refine (HF2.out _ HBW.out).mono ?_
  rintro e_ w2 ⟨rfl, hb1⟩
  have hbw := btrans HBW.out hb1
  have Kp := HKp.out.below hb1 lKp
  have Kq := HKq.out.below hb1 lKq
  have Kr := HKr.out.below hb1 lKr
  have Kz := HKz.out.below hb1 lKz
  clear HKp HKq HKr HKz HBW lKp lKq lKr lKz cKq0 cKq1 cKq2 cKr0 cKr1 cKr2
  clear HF HF2
  have lKp := Kp.lt
  have lKq := Kq.lt
  have lKr := Kr.lt
  have lKz := Kz.lt
  have cKp0 := Kp.cell 0
  have cKp1 := Kp.cell 1
  have cKp2 := Kp.cell 2
  have cKr0 := Kr.cell 0
  have cKr1 := Kr.cell 1
  have cKr2 := Kr.cell 2
  simp only [List.getElem?_toArray, List.getElem?_cons_succ, List.getElem?_cons_zero] at cKp0 cKp1 cKp2 cKr0 cKr1 cKr2
  have HKp := Lib.hid Kp
  have HKq := Lib.hid Kq
  have HKr := Lib.hid Kr
  have HKz := Lib.hid Kz
  have HBW := Lib.hid hbw
  clear Kp Kq Kr Kz hbw hb1
  go_wp2_with fail
  refine (HC.out _ HBW.out).mono ?_
  rintro e_ w3 ⟨g, f, cs, hg, rfl, hnf, hB, hH2, hb1⟩
  have hsz3 := lKz
  have hgw : w.heap.size ≤ g := by omega
  have e1 : w.heap.size + 1 ≠ g := by omega
  have e2 : w.heap.size ≠ g := by omega
  have e3 : w.heap.size + 1 + 1 + 1 ≠ g := by omega
  have hbw := btrans HBW.out hb1
  have Kp := HKp.out.below hb1 lKp
  have Kq := HKq.out.below hb1 lKq
  have Kr := HKr.out.below hb1 lKr
  have Kz := HKz.out.below hb1 lKz
  clear HKp HKq HKr HKz HBW lKp lKq lKr lKz cKp0 cKp1 cKp2 cKr0 cKr1 cKr2
  have hgl := hB.lt
  have e4 : b ≠ g := by have := HBL.out; omega
  have P1 : LRel g n w.heap.size (w.heap.size + 1) #[.int .i64 (W : Int), .int .i64 (H : Int), .slice (some ⟨g, 0, none⟩) n f] #[.int .i64 (W : Int), .int .i64 (H : Int), .slice (some ⟨b, o, none⟩) n d] b o d C B (((w3.setCell ⟨w.heap.size, 0, none⟩ (.int .i64 (W : Int))).setCell ⟨w.heap.size, 1, none⟩ (.int .i64 (H : Int))).setCell ⟨w.heap.size, 2, none⟩ (.slice (some ⟨g, 0, none⟩) n f)) :=
    ⟨cs, ((hB.far (p := ⟨w.heap.size, 0, none⟩) e2.symm _).far (p := ⟨w.heap.size, 1, none⟩) e2.symm _).far (p := ⟨w.heap.size, 2, none⟩) e2.symm _, hH2, ((Kp.set_ 0 _).set_ 1 _).set_ 2 _, ((Kq.far (p := ⟨w.heap.size, 0, none⟩) (by simp) _).far (p := ⟨w.heap.size, 1, none⟩) (by simp) _).far (p := ⟨w.heap.size, 2, none⟩) (by simp) _, (((HQ.out.below hbw).far (by have := HBL.out; omega) _).far (by have := HBL.out; omega) _).far (by have := HBL.out; omega) _⟩
  have Z1 := ((Kz.far (p := ⟨w.heap.size, 0, none⟩) (by simp; omega) (.int .i64 (W : Int))).far (p := ⟨w.heap.size, 1, none⟩) (by simp; omega) (.int .i64 (H : Int))).far (p := ⟨w.heap.size, 2, none⟩) (by simp; omega) (.slice (some ⟨g, 0, none⟩) n f)
  clear HC hg hB hH2 hsz3
  have a0 := Kp.cell 0
  have a1 := Kp.cell 1
  have a2 := Kp.cell 2
  have f0 := Kp.frozen 0
  have f1 := Kp.frozen 1
  have f2 := Kp.frozen 2
  have r0 := Kr.cell 0
  have r1 := Kr.cell 1
  have r2 := Kr.cell 2
  simp only [List.getElem?_toArray, List.getElem?_cons_succ, List.getElem?_cons_zero] at a0 a1 a2 r0 r1 r2
  have HP1 := Lib.hid P1
  have HZ1 := Lib.hid Z1
  have HBW := Lib.hid hbw
  have HNF := Lib.hid hnf
  clear Kp Kq Kr Kz hbw P1 Z1 hnf
  go_wp2_with fail
  refine (HEA.out _ g _ (by (repeat' (first | refine bset ?_ (by first | omega | (simp <;> omega)) _ | refine balloc ?_ _ | refine Below.drew ?_ | refine below_drewN ?_ _ | exact HBW.out | exact Below.refl _ _))) hgw (by simpa using hgl) (HWK.out g f HNF.out e2 e1 e4) (HP1.out.ext fun j _ => partL_zero W R B C j)).mono ?_
  rintro e_ w4 ⟨rfl, hP, hG⟩
  have hbw : Below w.heap.size w w4 := Below.grown (by (repeat' (first | refine bset ?_ (by first | omega | (simp <;> omega)) _ | refine balloc ?_ _ | refine Below.drew ?_ | refine below_drewN ?_ _ | exact HBW.out | exact Below.refl _ _))) hG (by have := HBW.out.size; simpa using this) (fun k e => by cases e; exact hgw)
  have Kz := HZ1.out.grown hG (by simp; omega)
  clear HP1 HZ1 HBW hG a0 a1 a2 r0 r1 r2 f0 f1 f2 HEA HWK
  obtain ⟨cs3, h1, h2, h3, h4, h5⟩ := hP
  have a0 := h3.cell 0
  have a1 := h3.cell 1
  have a2 := h3.cell 2
  have z0 := Kz.cell 0
  have z1 := Kz.cell 1
  have z2 := Kz.cell 2
  have f0 := Kz.frozen 0
  have f1 := Kz.frozen 1
  have f2 := Kz.frozen 2
  simp only [List.getElem?_toArray, List.getElem?_cons_succ, List.getElem?_cons_zero] at a0 a1 a2 z0 z1 z2
  have H1 := Lib.hid h1
  have H2 := Lib.hid h2
  have HKz := Lib.hid Kz
  have HBW := Lib.hid hbw
  clear h1 h2 h3 h4 h5 Kz hbw
  go_wp2_with fail
  have K := ((HKz.out.set_ 0 (.int .i64 (W : Int))).set_ 1 (.int .i64 (H : Int))).set_ 2 (.slice (some ⟨g, 0, none⟩) n f)
  refine ret_struct2 (g := w.heap.size + 1 + 1 + 1) (t := 46) (cs := #[.int .i64 (W : Int), .int .i64 (H : Int), .slice (some ⟨g, 0, none⟩) n f]) rfl rfl ?_ Try.underlying46 rfl rfl rfl ?_
  · exact K
  · refine ⟨g, f, hgw, rfl, (H2.out.ext fun t ht => partL_all W H R B C t (by have := HN.out; omega)).pg (((H1.out.far (p := ⟨_, 0, none⟩) e3.symm _).far (p := ⟨_, 1, none⟩) e3.symm _).far (p := ⟨_, 2, none⟩) e3.symm _) HNF.out, by (repeat' (first | refine bset ?_ (by first | omega | (simp <;> omega)) _ | refine balloc ?_ _ | refine Below.drew ?_ | refine below_drewN ?_ _ | exact HBW.out | exact Below.refl _ _))⟩

theorem rowsOf_nil (W : Nat) (R : Nat → Nat → Bool) (j : Nat) (h : ∀ i, i < W → R j i = false) : rowsOf W R j = [] := by
  rw [rowsOf_ext (S := fun _ _ => false) (fun i hi => h i hi)]
  have h2 : ∀ n, rl (fun _ => false) n = [] := fun n => by
    induction n with
    | zero => exact rl_zero _
    | succ n ih => rw [rl_no (by rfl)]; exact ih
  exact h2 W

set_option maxRecDepth 100000 in
set_option maxHeartbeats 1600000 in
theorem rcount_zero (W H d : Nat) (D : Option Addr) (R : Nat → Nat → Bool) (w : World) (hW : 1 ≤ W ∧ W ≤ 64) (hH : 1 ≤ H ∧ H ≤ 64) (hr : Rows w D H d (rowsOf W R)) (hR : ∀ j, j < H → ∀ i, i < W → R j i = false) :
    Calls Try.prog 52 #[.agg #[.int .i64 (W : Int), .int .i64 (H : Int), .slice D H d]] w fun e w' => e = .returned (.int .i64 0) ∧ Below w.heap.size w w' := by
  have HM1 := Lib.hid (fun W' (hW' : Below w.heap.size w W') => rmay_yes W H d D _ W' hW hH (rowsOf_mayAll W H R hW.2) (hr.below hW'))
  replace hr : Rows w D H d (fun _ => []) := hr.ext fun j hj => rowsOf_nil W R j (hR j hj)
  have HR := Lib.hid hr
  have c0 : cnt (inRuns []) 64 = 0 := by decide
  have HCN := Lib.hid (fun A c w h => c0 ▸ count_any A 0 c [] w h (by omega))
  have K := Blk.new w 51 #[.int .i64 (W : Int), .int .i64 (H : Int), .slice D H d]
  obtain ⟨h0, h1⟩ := hH
  clear hr hR c0 hW
  go_enter Try.func52, Try.ntmps52
  go_wp2_with fail
  refine (HM1.out _ (by (repeat' (first | exact Below.refl _ _ | exact Below.refl _ _ | refine balloc ?_ _ | refine Below.drew ?_ | refine below_drewN ?_ _ | refine bset ?_ (by first | omega | (simp <;> omega)) _)))).mono ?_
  rintro e_ w1 ⟨rfl, hb1⟩
  have hbw : Below w.heap.size w w1 := btrans (by (repeat' (first | exact Below.refl _ _ | exact Below.refl _ _ | refine balloc ?_ _ | refine Below.drew ?_ | refine below_drewN ?_ _ | refine bset ?_ (by first | omega | (simp <;> omega)) _))) hb1
  replace K := K.below hb1 (by first | (simp; done) | (simp; omega))
  have a2 := K.cell 2
  simp only [List.getElem?_toArray, List.getElem?_cons_succ, List.getElem?_cons_zero] at a2
  have HBW := Lib.hid hbw
  clear K hbw hb1 HM1
  go_wp2_with fail
  go_loopw [3, 11] (fun nv kv wr => ∃ k : Nat, k ≤ H ∧ kv = .int .i64 (k : Int) ∧ nv = .int .i64 0 ∧ Below w.heap.size w wr) (fun _ kv _ => H - (intOf kv).toNat)
  case atStart => exact ⟨0, by omega, rfl, rfl, HBW.out⟩
  case round =>
    clear HBW a2
    obtain ⟨k, hk, rfl, rfl, hbw⟩ := hrel
    by_cases hlt : k < H
    · have d1 : decide ((k : Int) < (H : Int)) = true := by simp; omega
      have d3 : (k : Int) < (H : Int) := by omega
      obtain ⟨_, hat⟩ := HR.out
      obtain ⟨b, o, rfl, hb, hat⟩ := hat (by omega)
      obtain ⟨_, Aj, cj, q1, q2⟩ := hat k hlt
      have x1 := (hbw.cell (p := ⟨b, o + k, none⟩) hb).trans q1
      have HB := Lib.hid hbw
      have HQ := Lib.hid (q2.below hbw)
      clear hat q1 q2 hbw
      simp only [List.length_nil] at x1
      go_wp2_with fail
      refine (HCN.out Aj cj _ HQ.out).mono ?_
      rintro e_ w2 ⟨rfl, hb2⟩
      have hbw := btrans HB.out hb2
      clear HB hb2 HQ x1
      go_wp2_with fail
      go_roundw
      case rel => exact ⟨k + 1, by omega, by go_num, rfl, hbw⟩
      case measure => simp [intOf]; omega
    · obtain rfl : k = H := by omega
      have d1 : decide ((k : Int) < (k : Int)) = false := by simp
      go_wp2_with fail
      go_ret
      exact ⟨rfl, hbw⟩
end Go.Proofs.Ytegpjjkbbdfggaa.rg

/-
  ImageParts: an image painted in two regions side by side is the image; where it has no sample nothing is turned; painted again it is as it was.
-/
namespace Go.Proofs.Ytegpjjkbbdfggaa.im
set_option linter.unusedVariables false
set_option linter.unusedSimpArgs false
open Go.RowKit bs op rg

theorem parts_px (w : Nat) (R : Nat → Nat → Bool) (S : Nat → Nat → Int) (G : Int → Int) (Y : Nat → Int) (t : Nat) : paintB w (fun j i => !R j i) S G (paintB w R S G Y) t = paintB w (fun _ _ => true) S G Y t := by
  unfold paintB
  by_cases hR : R (t / 3 / w) (t / 3 % w) = true <;> by_cases h : 0 ≤ S (t / 3 / w) (t / 3 % w) <;> simp [h, hR]
theorem again_px (w : Nat) (S : Nat → Nat → Int) (G : Int → Int) (Y : Nat → Int) (t : Nat) : paintB w (fun _ _ => true) S G (paintB w (fun _ _ => true) S G Y) t = paintB w (fun _ _ => true) S G Y t := by
  unfold paintB
  by_cases h : 0 ≤ S (t / 3 / w) (t / 3 % w) <;> simp [h]
theorem parts_dif (w : Nat) (R : Nat → Nat → Bool) (S : Nat → Nat → Int) (G : Int → Int) (Y : Nat → Int) (j i : Nat) (hi : i < w) : (dif (paintB w R S G Y) Y (j * w + i) && !R j i) = false := by
  cases hR : R j i with
  | true => simp
  | false =>
    have e : ∀ t, t < 3 → paintB w R S G Y (3 * (j * w + i) + t) = Y (3 * (j * w + i) + t) := fun t ht => by
      unfold paintB
      rw [show (3 * (j * w + i) + t) / 3 = j * w + i by omega, (pix_of hi).1, (pix_of hi).2, hR, if_neg (by simp)]
    have e0 : paintB w R S G Y (3 * (j * w + i)) = Y (3 * (j * w + i)) := e 0 (by omega)
    unfold dif
    rw [e0, e 1 (by omega), e 2 (by omega)]
    simp
theorem alloc_page2 (dst : Option Tmp) (ty : TypeId) (pos : String) (after : Array Edge) (guard : Option (Nat × Bool)) (ρ : Operand → Value) (w : World) :
    (execOp ρ ⟨dst, .alloc 46, ty, pos, after, guard⟩).run Try.prog w = .ok (.value (.pointer (some ⟨w.heap.size, 0, none⟩))) (w.alloc (.cells #[.int .i64 0, .int .i64 0, .slice none 0 0] 46)) := by kernel_rfl
theorem alloc_reg2 (dst : Option Tmp) (ty : TypeId) (pos : String) (after : Array Edge) (guard : Option (Nat × Bool)) (ρ : Operand → Value) (w : World) :
    (execOp ρ ⟨dst, .alloc 51, ty, pos, after, guard⟩).run Try.prog w = .ok (.value (.pointer (some ⟨w.heap.size, 0, none⟩))) (w.alloc (.cells #[.int .i64 0, .int .i64 0, .slice none 0 0] 51)) := by kernel_rfl
theorem zero_img : ∀ o, (∀ x : Int, ((#[.int .i64 0, .int .i64 0, .int .i64 0, .string ⟨#[]⟩] : Array Value)[o]?) = some (.int .i64 x) → x = 0) ∧ (∀ x, ((#[.int .i64 0, .int .i64 0, .int .i64 0, .string ⟨#[]⟩] : Array Value)[o]?) ≠ some (.int .u8 x)) ∧ (∀ A n c, ((#[.int .i64 0, .int .i64 0, .int .i64 0, .string ⟨#[]⟩] : Array Value)[o]?) = some (.slice A n c) → o = 2) := by
  intro o
  rcases (show o = 0 ∨ o = 1 ∨ o = 2 ∨ o = 3 ∨ 4 ≤ o by omega) with rfl | rfl | rfl | rfl | h
  · exact ⟨fun x h => by first | (simp at h; done) | (simp at h; omega), fun x h => by simp at h, fun A n c h => by first | rfl | (simp at h; done)⟩
  · exact ⟨fun x h => by first | (simp at h; done) | (simp at h; omega), fun x h => by simp at h, fun A n c h => by first | rfl | (simp at h; done)⟩
  · exact ⟨fun x h => by first | (simp at h; done) | (simp at h; omega), fun x h => by simp at h, fun A n c h => by first | rfl | (simp at h; done)⟩
  · exact ⟨fun x h => by first | (simp at h; done) | (simp at h; omega), fun x h => by simp at h, fun A n c h => by first | rfl | (simp at h; done)⟩
  · have h0 : ((#[.int .i64 0, .int .i64 0, .int .i64 0, .string ⟨#[]⟩] : Array Value)[o]?) = none := Array.getElem?_eq_none (by simpa using h)
    rw [h0]
    exact ⟨fun x h => by simp at h, fun x h => by simp at h, fun A n c h => by simp at h⟩
theorem zero_mat : ∀ o, (∀ x : Int, ((#[.int .i64 0, .int .i64 0, .int .i64 0, .int .i64 0, .int .i64 0, .int .i64 0] : Array Value)[o]?) = some (.int .i64 x) → x = 0) ∧ (∀ x, ((#[.int .i64 0, .int .i64 0, .int .i64 0, .int .i64 0, .int .i64 0, .int .i64 0] : Array Value)[o]?) ≠ some (.int .u8 x)) ∧ (∀ A n c, ((#[.int .i64 0, .int .i64 0, .int .i64 0, .int .i64 0, .int .i64 0, .int .i64 0] : Array Value)[o]?) = some (.slice A n c) → o = 2) := by
  intro o
  rcases (show o = 0 ∨ o = 1 ∨ o = 2 ∨ o = 3 ∨ o = 4 ∨ o = 5 ∨ 6 ≤ o by omega) with rfl | rfl | rfl | rfl | rfl | rfl | h
  · exact ⟨fun x h => by first | (simp at h; done) | (simp at h; omega), fun x h => by simp at h, fun A n c h => by first | rfl | (simp at h; done)⟩
  · exact ⟨fun x h => by first | (simp at h; done) | (simp at h; omega), fun x h => by simp at h, fun A n c h => by first | rfl | (simp at h; done)⟩
  · exact ⟨fun x h => by first | (simp at h; done) | (simp at h; omega), fun x h => by simp at h, fun A n c h => by first | rfl | (simp at h; done)⟩
  · exact ⟨fun x h => by first | (simp at h; done) | (simp at h; omega), fun x h => by simp at h, fun A n c h => by first | rfl | (simp at h; done)⟩
  · exact ⟨fun x h => by first | (simp at h; done) | (simp at h; omega), fun x h => by simp at h, fun A n c h => by first | rfl | (simp at h; done)⟩
  · exact ⟨fun x h => by first | (simp at h; done) | (simp at h; omega), fun x h => by simp at h, fun A n c h => by first | rfl | (simp at h; done)⟩
  · have h0 : ((#[.int .i64 0, .int .i64 0, .int .i64 0, .int .i64 0, .int .i64 0, .int .i64 0] : Array Value)[o]?) = none := Array.getElem?_eq_none (by simpa using h)
    rw [h0]
    exact ⟨fun x h => by simp at h, fun x h => by simp at h, fun A n c h => by simp at h⟩
theorem zero_page : ∀ o, (∀ x : Int, ((#[.int .i64 0, .int .i64 0, .slice none 0 0] : Array Value)[o]?) = some (.int .i64 x) → x = 0) ∧ (∀ x, ((#[.int .i64 0, .int .i64 0, .slice none 0 0] : Array Value)[o]?) ≠ some (.int .u8 x)) ∧ (∀ A n c, ((#[.int .i64 0, .int .i64 0, .slice none 0 0] : Array Value)[o]?) = some (.slice A n c) → o = 2) := by
  intro o
  rcases (show o = 0 ∨ o = 1 ∨ o = 2 ∨ 3 ≤ o by omega) with rfl | rfl | rfl | h
  · exact ⟨fun x h => by first | (simp at h; done) | (simp at h; omega), fun x h => by simp at h, fun A n c h => by first | rfl | (simp at h; done)⟩
  · exact ⟨fun x h => by first | (simp at h; done) | (simp at h; omega), fun x h => by simp at h, fun A n c h => by first | rfl | (simp at h; done)⟩
  · exact ⟨fun x h => by first | (simp at h; done) | (simp at h; omega), fun x h => by simp at h, fun A n c h => by first | rfl | (simp at h; done)⟩
  · have h0 : ((#[.int .i64 0, .int .i64 0, .slice none 0 0] : Array Value)[o]?) = none := Array.getElem?_eq_none (by simpa using h)
    rw [h0]
    exact ⟨fun x h => by simp at h, fun x h => by simp at h, fun A n c h => by simp at h⟩

set_option maxRecDepth 100000 in
set_option maxHeartbeats 6400000 in
theorem iparts_zero (A : Option Addr) (n c : Nat) (ns : Nat → Int) (bits a0 a1 a2 a3 a4 a5 : Int) (A3 : Option Addr) (n3 c3 : Nat) (ns3 : Nat → Int) (A4 : Option Addr) (n4 c4 : Nat) (ns4 : Nat → Int) (W H B a b c2 d e f : Int) (s : ByteArray) (w : World) (hr : Ints w A n c ns) (hr3 : Ints w A3 n3 c3 ns3) (hn3 : n3 ≤ 9223372036854775807) (hr4 : Ints w A4 n4 c4 ns4) (hn4 : n4 ≤ 9223372036854775807)
    (HMd : Hid (∀ W', Ints W' A n c ns → Calls Try.prog 23 #[.slice A n c, .int .i64 bits] W' fun ed w' => ed = .returned (.agg #[.int .i64 W, .int .i64 H, .int .i64 B, .string s]) ∧ Below W'.heap.size W' w'))
    (HTu : Hid (∀ W', Calls Try.prog 24 #[.agg #[.int .i64 a0, .int .i64 a1, .int .i64 a2, .int .i64 a3, .int .i64 a4, .int .i64 a5]] W' fun ed w' => ed = .returned (.agg #[.int .i64 a, .int .i64 b, .int .i64 c2, .int .i64 d, .int .i64 e, .int .i64 f]) ∧ Below W'.heap.size W' w'))
    (hmay : mayI W H B s.size = true) (hmat : mt.mayB a b c2 d e f = true) (hd : a * d - b * c2 = 0) :
    Calls Try.prog 11 #[.slice A n c, .int .i64 bits, .agg #[.int .i64 a0, .int .i64 a1, .int .i64 a2, .int .i64 a3, .int .i64 a4, .int .i64 a5], .slice A3 n3 c3, .slice A4 n4 c4] w fun ed w' => ed = .returned (.bool true) ∧ Below w.heap.size w w' := by
  have hs := may_size hmay
  obtain ⟨N, hN⟩ : ∃ N, N = 3 * (8 * 9) := ⟨_, rfl⟩
  have HNP := Lib.hid (show 0 < N by rw [hN]; decide)
  have HPG := Lib.hid (fun W' h => lpage_any A3 n3 c3 ns3 8 9 N W' h hn3 (by decide) (by decide) hN)
  have HM3 := Lib.hid (fun W' h => lmade_any A4 n4 c4 ns4 8 9 W' h hn4 (by decide) (by decide))
  have HAL := Lib.hid (fun W' => rall_any 8 9 W' (by decide) (by decide))
  have HPT := Lib.hid (fun cp dr A D R W' hr => paint_det0 W H B a b c2 d e f s 8 9 N cp dr A D R W' (by decide) (by decide) hN hs hmay hmat hd hr)
  have HRG := Lib.hid (fun W' => over_det0 W H B a b c2 d e f s 8 9 W' (by decide) (by decide) hs hmay hmat hd)
  have HNT := Lib.hid (fun c A R W' hr => rnot_any 8 9 c A R W' (by decide) (by decide) hr)
  have hAt := fun W' => At_any W H B a b c2 d e f 8 8 s W' hs
  have hv : AtV W H B s a b c2 d e f 8 8 = -1 := by
    unfold AtV atV
    rw [if_pos (by rw [hmay, hmat]; rfl), if_pos (.inl hd)]
  rw [hv] at hAt
  have HAt := Lib.hid hAt
  clear hAt hv
  have HI1 := Lib.hid hr
  have HI3 := Lib.hid hr3
  have HI4 := Lib.hid hr4
  clear hs hmay hmat hd hN hr hr3 hr4 hn3 hn4
  go_enter Try.func11, Try.ntmps11
  go_wp2_with fail
  have hst0 : Below w.heap.size w (w.alloc (.cells #[.int .i64 a0, .int .i64 a1, .int .i64 a2, .int .i64 a3, .int .i64 a4, .int .i64 a5] 34)) := by (repeat' (first | exact Below.refl _ _ | exact Below.refl _ _ | refine balloc ?_ _ | refine Below.drew ?_ | refine below_drewN ?_ _ | refine bset ?_ (by first | omega | (simp <;> omega)) _))
  refine (known_any _).mono ?_
  rintro e_ w1 ⟨rfl, hb⟩
  have hst : Below w.heap.size w w1 := btrans hst0 hb
  have Ka := (Blk.new w 34 #[.int .i64 a0, .int .i64 a1, .int .i64 a2, .int .i64 a3, .int .i64 a4, .int .i64 a5])
  replace Ka := Ka.below hb Ka.lt
  have hbw : Below w.heap.size w w1 := hst
  replace HI1 := Lib.hid (HI1.out.below hst)
  replace HI3 := Lib.hid (HI3.out.below hst)
  replace HI4 := Lib.hid (HI4.out.below hst)
  clear hst hst0 hb 
  have lKa := Ka.lt
  have cKa0 := Ka.cell 0
  have cKa1 := Ka.cell 1
  have cKa2 := Ka.cell 2
  have cKa3 := Ka.cell 3
  have cKa4 := Ka.cell 4
  have cKa5 := Ka.cell 5
  simp only [List.getElem?_toArray, List.getElem?_cons_succ, List.getElem?_cons_zero] at cKa0 cKa1 cKa2 cKa3 cKa4 cKa5
  go_wp2_with fail
  refine wp_region_chain4 9 [0, 1, 2, 3, 4, 5, 7] [6, 8] (.cells #[.int .i64 0, .int .i64 0, .int .i64 0, .string ⟨#[]⟩] 23) (.cells #[.int .i64 0, .int .i64 0, .int .i64 0, .int .i64 0, .int .i64 0, .int .i64 0] 25) (.cells #[.int .i64 0, .int .i64 0, .slice none 0 0] 46) (.cells #[.int .i64 0, .int .i64 0, .slice none 0 0] 51) _ _ _ _ (by kernel_rfl) (by kernel_rfl) rfl rfl rfl rfl (fun ρ w => alloc_img2 _ _ _ _ _ ρ w) (fun ρ w => alloc_mat2 _ _ _ _ _ ρ w) (fun ρ w => alloc_page2 _ _ _ _ _ ρ w) (fun ρ w => alloc_reg2 _ _ _ _ _ ρ w) ?_
  intro u0
  have uKa0 : ∀ u : Up u0.val, u.val.cell? ⟨w.heap.size, 0, none⟩ = some (.int .i64 a0) := fun u => ((u.cell (Nat.lt_of_lt_of_le lKa u0.ok.size)).trans (u0.cell lKa)).trans cKa0
  have uKa1 : ∀ u : Up u0.val, u.val.cell? ⟨w.heap.size, 1, none⟩ = some (.int .i64 a1) := fun u => ((u.cell (Nat.lt_of_lt_of_le lKa u0.ok.size)).trans (u0.cell lKa)).trans cKa1
  have uKa2 : ∀ u : Up u0.val, u.val.cell? ⟨w.heap.size, 2, none⟩ = some (.int .i64 a2) := fun u => ((u.cell (Nat.lt_of_lt_of_le lKa u0.ok.size)).trans (u0.cell lKa)).trans cKa2
  have uKa3 : ∀ u : Up u0.val, u.val.cell? ⟨w.heap.size, 3, none⟩ = some (.int .i64 a3) := fun u => ((u.cell (Nat.lt_of_lt_of_le lKa u0.ok.size)).trans (u0.cell lKa)).trans cKa3
  have uKa4 : ∀ u : Up u0.val, u.val.cell? ⟨w.heap.size, 4, none⟩ = some (.int .i64 a4) := fun u => ((u.cell (Nat.lt_of_lt_of_le lKa u0.ok.size)).trans (u0.cell lKa)).trans cKa4
  have uKa5 : ∀ u : Up u0.val, u.val.cell? ⟨w.heap.size, 5, none⟩ = some (.int .i64 a5) := fun u => ((u.cell (Nat.lt_of_lt_of_le lKa u0.ok.size)).trans (u0.cell lKa)).trans cKa5
  have HU1 := Lib.hid (fun u : Up u0.val => up_of (u := u) (HMd.out u.val (HI1.out.below (btrans u0.ok u.ok))))
  have HU2 := Lib.hid (fun u : Up u0.val => up_of (u := u) (HTu.out u.val))
  change wpQuiet _ _ _ _ (_ :: _ :: _ :: _ :: _ :: _ :: _ :: []) _
  unfold upC
  simp only [List.getElem_toArray, List.getElem_cons_succ, List.getElem_cons_zero]
  repeat (go_big_quiet_step (fail))
  go_big_quiet_step (exact HU1.out _)
  repeat (go_big_quiet_step (fail))
  go_big_quiet_step (exact HU2.out _)
  repeat (go_big_quiet_step (fail))
  refine wpQuiet_nil ?_
  clear HU1 HU2 uKa0 uKa1 uKa2 uKa3 uKa4 uKa5 u0 HMd HTu lKa cKa0 cKa1 cKa2 cKa3 cKa4 cKa5 Ka
  refine fun V1 hV1 => ?_
  refine stepV_of _ 28 #[.slice A3 n3 c3, .int .i64 8, .int .i64 9] rfl (by kernel_rfl) (by kernel_rfl) ?_
  refine (HPG.out V1 (HI3.out.below hV1)).mono ?_
  rintro e_ V2 ⟨gp, Y, rfl, hP, hb2⟩
  refine ⟨_, rfl, hb2, ?_⟩
  refine fun V3 hV3 => ?_
  refine stepV_of _ 46 #[.slice A4 n4 c4, .int .i64 8, .int .i64 9] rfl (by kernel_rfl) (by kernel_rfl) ?_
  refine (HM3.out V3 (HI4.out.below (btrans (btrans hV1 hb2) hV3))).mono ?_
  rintro e_ V4 ⟨D1, d1, R, rfl, hR, hb4⟩
  refine ⟨_, rfl, hb4, ?_⟩
  refine fun w3 hV5 Pi Pm Pp Pr ⟨hi0, hi1, Ki⟩ ⟨hm0, hm1, Km⟩ ⟨hp0, hp1, Kp⟩ ⟨hr0, hr1, Kr⟩ ⟨⟨n1, n2, n3⟩, ⟨n4, n5⟩, n6⟩ => ?_
  have HhP := Lib.hid (hP.below (btrans (btrans hV3 hb4) hV5))
  have HhR := Lib.hid (hR.below hV5)
  have hst := btrans (btrans (btrans hV1 hb2) (btrans hV3 hb4)) hV5
  have hs0 := hbw.size
  replace hbw := btrans hbw hst
  clear hP hR hV1 hb2 hV3 hb4 hst hV5
  replace Ki : Blk w3 Pi 23 #[.int .i64 0, .int .i64 0, .int .i64 0, .string ⟨#[]⟩] := Ki
  replace Km : Blk w3 Pm 25 #[.int .i64 0, .int .i64 0, .int .i64 0, .int .i64 0, .int .i64 0, .int .i64 0] := Km
  replace Kp : Blk w3 Pp 46 #[.int .i64 0, .int .i64 0, .slice none 0 0] := Kp
  replace Kr : Blk w3 Pr 51 #[.int .i64 0, .int .i64 0, .slice none 0 0] := Kr
  simp only [Act.put, List.setIfInBounds_toArray, List.set_cons_zero, List.set_cons_succ, List.drop_succ_cons, List.drop_zero]
  have cKi0 := Ki.cell 0
  have fKi0 := Ki.frozen 0
  have cKi1 := Ki.cell 1
  have fKi1 := Ki.frozen 1
  have cKi2 := Ki.cell 2
  have fKi2 := Ki.frozen 2
  have cKi3 := Ki.cell 3
  have fKi3 := Ki.frozen 3
  have cKm0 := Km.cell 0
  have fKm0 := Km.frozen 0
  have cKm1 := Km.cell 1
  have fKm1 := Km.frozen 1
  have cKm2 := Km.cell 2
  have fKm2 := Km.frozen 2
  have cKm3 := Km.cell 3
  have fKm3 := Km.frozen 3
  have cKm4 := Km.cell 4
  have fKm4 := Km.frozen 4
  have cKm5 := Km.cell 5
  have fKm5 := Km.frozen 5
  have cKp0 := Kp.cell 0
  have fKp0 := Kp.frozen 0
  have cKp1 := Kp.cell 1
  have fKp1 := Kp.frozen 1
  have cKp2 := Kp.cell 2
  have fKp2 := Kp.frozen 2
  have cKr0 := Kr.cell 0
  have fKr0 := Kr.frozen 0
  have cKr1 := Kr.cell 1
  have fKr1 := Kr.frozen 1
  have cKr2 := Kr.cell 2
  have fKr2 := Kr.frozen 2
  simp only [List.getElem?_toArray, List.getElem?_cons_succ, List.getElem?_cons_zero] at cKi0 cKi1 cKi2 cKi3 cKm0 cKm1 cKm2 cKm3 cKm4 cKm5 cKp0 cKp1 cKp2 cKr0 cKr1 cKr2
  have HZR := Lib.hid (show ∀ b, (b = Pi ∨ b = Pm ∨ b = Pp ∨ b = Pr) → Zero w3 b by
    rintro b (rfl | rfl | rfl | rfl)
    · exact Zero.blk Ki zero_img
    · exact Zero.blk Km zero_mat
    · exact Zero.blk Kp zero_page
    · exact Zero.blk Kr zero_page)
  refine wpList_stop fun Kx HKx => ?_
  go_wp2_with fail
  replace Ki : Blk _ Pi 23 #[.int .i64 W, .int .i64 H, .int .i64 B, .string s] := blk_cast ((((((((((((((((Ki.set_ 0 (.int .i64 W)).set_ 1 (.int .i64 H)).set_ 2 (.int .i64 B)).set_ 3 (.string s)).far (p := ⟨Pm, 0, none⟩) n1 (.int .i64 a)).far (p := ⟨Pm, 1, none⟩) n1 (.int .i64 b)).far (p := ⟨Pm, 2, none⟩) n1 (.int .i64 c2)).far (p := ⟨Pm, 3, none⟩) n1 (.int .i64 d)).far (p := ⟨Pm, 4, none⟩) n1 (.int .i64 e)).far (p := ⟨Pm, 5, none⟩) n1 (.int .i64 f)).far (p := ⟨Pp, 0, none⟩) n2 (.int .i64 8)).far (p := ⟨Pp, 1, none⟩) n2 (.int .i64 9)).far (p := ⟨Pp, 2, none⟩) n2 (.slice (some ⟨gp, 0, none⟩) N N)).far (p := ⟨Pr, 0, none⟩) n3 (.int .i64 8)).far (p := ⟨Pr, 1, none⟩) n3 (.int .i64 9)).far (p := ⟨Pr, 2, none⟩) n3 (.slice D1 9 d1)) (by kernel_rfl)
  replace Km : Blk _ Pm 25 #[.int .i64 a, .int .i64 b, .int .i64 c2, .int .i64 d, .int .i64 e, .int .i64 f] := blk_cast ((((((((((((((((Km.far (p := ⟨Pi, 0, none⟩) n1.symm (.int .i64 W)).far (p := ⟨Pi, 1, none⟩) n1.symm (.int .i64 H)).far (p := ⟨Pi, 2, none⟩) n1.symm (.int .i64 B)).far (p := ⟨Pi, 3, none⟩) n1.symm (.string s)).set_ 0 (.int .i64 a)).set_ 1 (.int .i64 b)).set_ 2 (.int .i64 c2)).set_ 3 (.int .i64 d)).set_ 4 (.int .i64 e)).set_ 5 (.int .i64 f)).far (p := ⟨Pp, 0, none⟩) n4 (.int .i64 8)).far (p := ⟨Pp, 1, none⟩) n4 (.int .i64 9)).far (p := ⟨Pp, 2, none⟩) n4 (.slice (some ⟨gp, 0, none⟩) N N)).far (p := ⟨Pr, 0, none⟩) n5 (.int .i64 8)).far (p := ⟨Pr, 1, none⟩) n5 (.int .i64 9)).far (p := ⟨Pr, 2, none⟩) n5 (.slice D1 9 d1)) (by kernel_rfl)
  replace Kp : Blk _ Pp 46 #[.int .i64 8, .int .i64 9, .slice (some ⟨gp, 0, none⟩) N N] := blk_cast ((((((((((((((((Kp.far (p := ⟨Pi, 0, none⟩) n2.symm (.int .i64 W)).far (p := ⟨Pi, 1, none⟩) n2.symm (.int .i64 H)).far (p := ⟨Pi, 2, none⟩) n2.symm (.int .i64 B)).far (p := ⟨Pi, 3, none⟩) n2.symm (.string s)).far (p := ⟨Pm, 0, none⟩) n4.symm (.int .i64 a)).far (p := ⟨Pm, 1, none⟩) n4.symm (.int .i64 b)).far (p := ⟨Pm, 2, none⟩) n4.symm (.int .i64 c2)).far (p := ⟨Pm, 3, none⟩) n4.symm (.int .i64 d)).far (p := ⟨Pm, 4, none⟩) n4.symm (.int .i64 e)).far (p := ⟨Pm, 5, none⟩) n4.symm (.int .i64 f)).set_ 0 (.int .i64 8)).set_ 1 (.int .i64 9)).set_ 2 (.slice (some ⟨gp, 0, none⟩) N N)).far (p := ⟨Pr, 0, none⟩) n6 (.int .i64 8)).far (p := ⟨Pr, 1, none⟩) n6 (.int .i64 9)).far (p := ⟨Pr, 2, none⟩) n6 (.slice D1 9 d1)) (by kernel_rfl)
  replace Kr : Blk _ Pr 51 #[.int .i64 8, .int .i64 9, .slice D1 9 d1] := blk_cast ((((((((((((((((Kr.far (p := ⟨Pi, 0, none⟩) n3.symm (.int .i64 W)).far (p := ⟨Pi, 1, none⟩) n3.symm (.int .i64 H)).far (p := ⟨Pi, 2, none⟩) n3.symm (.int .i64 B)).far (p := ⟨Pi, 3, none⟩) n3.symm (.string s)).far (p := ⟨Pm, 0, none⟩) n5.symm (.int .i64 a)).far (p := ⟨Pm, 1, none⟩) n5.symm (.int .i64 b)).far (p := ⟨Pm, 2, none⟩) n5.symm (.int .i64 c2)).far (p := ⟨Pm, 3, none⟩) n5.symm (.int .i64 d)).far (p := ⟨Pm, 4, none⟩) n5.symm (.int .i64 e)).far (p := ⟨Pm, 5, none⟩) n5.symm (.int .i64 f)).far (p := ⟨Pp, 0, none⟩) n6.symm (.int .i64 8)).far (p := ⟨Pp, 1, none⟩) n6.symm (.int .i64 9)).far (p := ⟨Pp, 2, none⟩) n6.symm (.slice (some ⟨gp, 0, none⟩) N N)).set_ 0 (.int .i64 8)).set_ 1 (.int .i64 9)).set_ 2 (.slice D1 9 d1)) (by kernel_rfl)
  have hqPi : w.heap.size ≤ Pi := by omega
  have hqPm : w.heap.size ≤ Pm := by omega
  have hqPp : w.heap.size ≤ Pp := by omega
  have hqPr : w.heap.size ≤ Pr := by omega
  have hsz : ((((((((((((((((w3.setCell ⟨Pi, 0, none⟩ (.int .i64 W)).setCell ⟨Pi, 1, none⟩ (.int .i64 H)).setCell ⟨Pi, 2, none⟩ (.int .i64 B)).setCell ⟨Pi, 3, none⟩ (.string s)).setCell ⟨Pm, 0, none⟩ (.int .i64 a)).setCell ⟨Pm, 1, none⟩ (.int .i64 b)).setCell ⟨Pm, 2, none⟩ (.int .i64 c2)).setCell ⟨Pm, 3, none⟩ (.int .i64 d)).setCell ⟨Pm, 4, none⟩ (.int .i64 e)).setCell ⟨Pm, 5, none⟩ (.int .i64 f)).setCell ⟨Pp, 0, none⟩ (.int .i64 8)).setCell ⟨Pp, 1, none⟩ (.int .i64 9)).setCell ⟨Pp, 2, none⟩ (.slice (some ⟨gp, 0, none⟩) N N)).setCell ⟨Pr, 0, none⟩ (.int .i64 8)).setCell ⟨Pr, 1, none⟩ (.int .i64 9)).setCell ⟨Pr, 2, none⟩ (.slice D1 9 d1)).heap.size = w3.heap.size := by simp only [World.size_setCell]
  have hag : ∀ bq, ¬ (bq = Pi ∨ bq = Pm ∨ bq = Pp ∨ bq = Pr) → ∀ o, ((((((((((((((((w3.setCell ⟨Pi, 0, none⟩ (.int .i64 W)).setCell ⟨Pi, 1, none⟩ (.int .i64 H)).setCell ⟨Pi, 2, none⟩ (.int .i64 B)).setCell ⟨Pi, 3, none⟩ (.string s)).setCell ⟨Pm, 0, none⟩ (.int .i64 a)).setCell ⟨Pm, 1, none⟩ (.int .i64 b)).setCell ⟨Pm, 2, none⟩ (.int .i64 c2)).setCell ⟨Pm, 3, none⟩ (.int .i64 d)).setCell ⟨Pm, 4, none⟩ (.int .i64 e)).setCell ⟨Pm, 5, none⟩ (.int .i64 f)).setCell ⟨Pp, 0, none⟩ (.int .i64 8)).setCell ⟨Pp, 1, none⟩ (.int .i64 9)).setCell ⟨Pp, 2, none⟩ (.slice (some ⟨gp, 0, none⟩) N N)).setCell ⟨Pr, 0, none⟩ (.int .i64 8)).setCell ⟨Pr, 1, none⟩ (.int .i64 9)).setCell ⟨Pr, 2, none⟩ (.slice D1 9 d1)).cell? ⟨bq, o, none⟩ = w3.cell? ⟨bq, o, none⟩ := fun bq hb o => by
    have hbPi : Pi ≠ bq := fun e => hb (.inl e.symm)
    have hbPm : Pm ≠ bq := fun e => hb (.inr (.inl e.symm))
    have hbPp : Pp ≠ bq := fun e => hb (.inr (.inr (.inl e.symm)))
    have hbPr : Pr ≠ bq := fun e => hb (.inr (.inr (.inr e.symm)))
    exact (World.cell?_setCell_far _ ⟨Pr, 2, none⟩ ⟨bq, o, none⟩ _ hbPr).trans ((World.cell?_setCell_far _ ⟨Pr, 1, none⟩ ⟨bq, o, none⟩ _ hbPr).trans ((World.cell?_setCell_far _ ⟨Pr, 0, none⟩ ⟨bq, o, none⟩ _ hbPr).trans ((World.cell?_setCell_far _ ⟨Pp, 2, none⟩ ⟨bq, o, none⟩ _ hbPp).trans ((World.cell?_setCell_far _ ⟨Pp, 1, none⟩ ⟨bq, o, none⟩ _ hbPp).trans ((World.cell?_setCell_far _ ⟨Pp, 0, none⟩ ⟨bq, o, none⟩ _ hbPp).trans ((World.cell?_setCell_far _ ⟨Pm, 5, none⟩ ⟨bq, o, none⟩ _ hbPm).trans ((World.cell?_setCell_far _ ⟨Pm, 4, none⟩ ⟨bq, o, none⟩ _ hbPm).trans ((World.cell?_setCell_far _ ⟨Pm, 3, none⟩ ⟨bq, o, none⟩ _ hbPm).trans ((World.cell?_setCell_far _ ⟨Pm, 2, none⟩ ⟨bq, o, none⟩ _ hbPm).trans ((World.cell?_setCell_far _ ⟨Pm, 1, none⟩ ⟨bq, o, none⟩ _ hbPm).trans ((World.cell?_setCell_far _ ⟨Pm, 0, none⟩ ⟨bq, o, none⟩ _ hbPm).trans ((World.cell?_setCell_far _ ⟨Pi, 3, none⟩ ⟨bq, o, none⟩ _ hbPi).trans ((World.cell?_setCell_far _ ⟨Pi, 2, none⟩ ⟨bq, o, none⟩ _ hbPi).trans ((World.cell?_setCell_far _ ⟨Pi, 1, none⟩ ⟨bq, o, none⟩ _ hbPi).trans (World.cell?_setCell_far _ ⟨Pi, 0, none⟩ ⟨bq, o, none⟩ _ hbPi)))))))))))))))
  replace hbw : Below w.heap.size w ((((((((((((((((w3.setCell ⟨Pi, 0, none⟩ (.int .i64 W)).setCell ⟨Pi, 1, none⟩ (.int .i64 H)).setCell ⟨Pi, 2, none⟩ (.int .i64 B)).setCell ⟨Pi, 3, none⟩ (.string s)).setCell ⟨Pm, 0, none⟩ (.int .i64 a)).setCell ⟨Pm, 1, none⟩ (.int .i64 b)).setCell ⟨Pm, 2, none⟩ (.int .i64 c2)).setCell ⟨Pm, 3, none⟩ (.int .i64 d)).setCell ⟨Pm, 4, none⟩ (.int .i64 e)).setCell ⟨Pm, 5, none⟩ (.int .i64 f)).setCell ⟨Pp, 0, none⟩ (.int .i64 8)).setCell ⟨Pp, 1, none⟩ (.int .i64 9)).setCell ⟨Pp, 2, none⟩ (.slice (some ⟨gp, 0, none⟩) N N)).setCell ⟨Pr, 0, none⟩ (.int .i64 8)).setCell ⟨Pr, 1, none⟩ (.int .i64 9)).setCell ⟨Pr, 2, none⟩ (.slice D1 9 d1)) := (bset (bset (bset (bset (bset (bset (bset (bset (bset (bset (bset (bset (bset (bset (bset (bset hbw hqPi _) hqPi _) hqPi _) hqPi _) hqPm _) hqPm _) hqPm _) hqPm _) hqPm _) hqPm _) hqPp _) hqPp _) hqPp _) hqPr _) hqPr _) hqPr _)
  have hex : Blk ((((((((((((((((w3.setCell ⟨Pi, 0, none⟩ (.int .i64 W)).setCell ⟨Pi, 1, none⟩ (.int .i64 H)).setCell ⟨Pi, 2, none⟩ (.int .i64 B)).setCell ⟨Pi, 3, none⟩ (.string s)).setCell ⟨Pm, 0, none⟩ (.int .i64 a)).setCell ⟨Pm, 1, none⟩ (.int .i64 b)).setCell ⟨Pm, 2, none⟩ (.int .i64 c2)).setCell ⟨Pm, 3, none⟩ (.int .i64 d)).setCell ⟨Pm, 4, none⟩ (.int .i64 e)).setCell ⟨Pm, 5, none⟩ (.int .i64 f)).setCell ⟨Pp, 0, none⟩ (.int .i64 8)).setCell ⟨Pp, 1, none⟩ (.int .i64 9)).setCell ⟨Pp, 2, none⟩ (.slice (some ⟨gp, 0, none⟩) N N)).setCell ⟨Pr, 0, none⟩ (.int .i64 8)).setCell ⟨Pr, 1, none⟩ (.int .i64 9)).setCell ⟨Pr, 2, none⟩ (.slice D1 9 d1)) Pi 23 #[.int .i64 W, .int .i64 H, .int .i64 B, .string s] ∧ Blk ((((((((((((((((w3.setCell ⟨Pi, 0, none⟩ (.int .i64 W)).setCell ⟨Pi, 1, none⟩ (.int .i64 H)).setCell ⟨Pi, 2, none⟩ (.int .i64 B)).setCell ⟨Pi, 3, none⟩ (.string s)).setCell ⟨Pm, 0, none⟩ (.int .i64 a)).setCell ⟨Pm, 1, none⟩ (.int .i64 b)).setCell ⟨Pm, 2, none⟩ (.int .i64 c2)).setCell ⟨Pm, 3, none⟩ (.int .i64 d)).setCell ⟨Pm, 4, none⟩ (.int .i64 e)).setCell ⟨Pm, 5, none⟩ (.int .i64 f)).setCell ⟨Pp, 0, none⟩ (.int .i64 8)).setCell ⟨Pp, 1, none⟩ (.int .i64 9)).setCell ⟨Pp, 2, none⟩ (.slice (some ⟨gp, 0, none⟩) N N)).setCell ⟨Pr, 0, none⟩ (.int .i64 8)).setCell ⟨Pr, 1, none⟩ (.int .i64 9)).setCell ⟨Pr, 2, none⟩ (.slice D1 9 d1)) Pm 25 #[.int .i64 a, .int .i64 b, .int .i64 c2, .int .i64 d, .int .i64 e, .int .i64 f] ∧ Blk ((((((((((((((((w3.setCell ⟨Pi, 0, none⟩ (.int .i64 W)).setCell ⟨Pi, 1, none⟩ (.int .i64 H)).setCell ⟨Pi, 2, none⟩ (.int .i64 B)).setCell ⟨Pi, 3, none⟩ (.string s)).setCell ⟨Pm, 0, none⟩ (.int .i64 a)).setCell ⟨Pm, 1, none⟩ (.int .i64 b)).setCell ⟨Pm, 2, none⟩ (.int .i64 c2)).setCell ⟨Pm, 3, none⟩ (.int .i64 d)).setCell ⟨Pm, 4, none⟩ (.int .i64 e)).setCell ⟨Pm, 5, none⟩ (.int .i64 f)).setCell ⟨Pp, 0, none⟩ (.int .i64 8)).setCell ⟨Pp, 1, none⟩ (.int .i64 9)).setCell ⟨Pp, 2, none⟩ (.slice (some ⟨gp, 0, none⟩) N N)).setCell ⟨Pr, 0, none⟩ (.int .i64 8)).setCell ⟨Pr, 1, none⟩ (.int .i64 9)).setCell ⟨Pr, 2, none⟩ (.slice D1 9 d1)) Pp 46 #[.int .i64 8, .int .i64 9, .slice (some ⟨gp, 0, none⟩) N N] ∧ Blk ((((((((((((((((w3.setCell ⟨Pi, 0, none⟩ (.int .i64 W)).setCell ⟨Pi, 1, none⟩ (.int .i64 H)).setCell ⟨Pi, 2, none⟩ (.int .i64 B)).setCell ⟨Pi, 3, none⟩ (.string s)).setCell ⟨Pm, 0, none⟩ (.int .i64 a)).setCell ⟨Pm, 1, none⟩ (.int .i64 b)).setCell ⟨Pm, 2, none⟩ (.int .i64 c2)).setCell ⟨Pm, 3, none⟩ (.int .i64 d)).setCell ⟨Pm, 4, none⟩ (.int .i64 e)).setCell ⟨Pm, 5, none⟩ (.int .i64 f)).setCell ⟨Pp, 0, none⟩ (.int .i64 8)).setCell ⟨Pp, 1, none⟩ (.int .i64 9)).setCell ⟨Pp, 2, none⟩ (.slice (some ⟨gp, 0, none⟩) N N)).setCell ⟨Pr, 0, none⟩ (.int .i64 8)).setCell ⟨Pr, 1, none⟩ (.int .i64 9)).setCell ⟨Pr, 2, none⟩ (.slice D1 9 d1)) Pr 51 #[.int .i64 8, .int .i64 9, .slice D1 9 d1] ∧ Below w.heap.size w ((((((((((((((((w3.setCell ⟨Pi, 0, none⟩ (.int .i64 W)).setCell ⟨Pi, 1, none⟩ (.int .i64 H)).setCell ⟨Pi, 2, none⟩ (.int .i64 B)).setCell ⟨Pi, 3, none⟩ (.string s)).setCell ⟨Pm, 0, none⟩ (.int .i64 a)).setCell ⟨Pm, 1, none⟩ (.int .i64 b)).setCell ⟨Pm, 2, none⟩ (.int .i64 c2)).setCell ⟨Pm, 3, none⟩ (.int .i64 d)).setCell ⟨Pm, 4, none⟩ (.int .i64 e)).setCell ⟨Pm, 5, none⟩ (.int .i64 f)).setCell ⟨Pp, 0, none⟩ (.int .i64 8)).setCell ⟨Pp, 1, none⟩ (.int .i64 9)).setCell ⟨Pp, 2, none⟩ (.slice (some ⟨gp, 0, none⟩) N N)).setCell ⟨Pr, 0, none⟩ (.int .i64 8)).setCell ⟨Pr, 1, none⟩ (.int .i64 9)).setCell ⟨Pr, 2, none⟩ (.slice D1 9 d1)) ∧ ((((((((((((((((w3.setCell ⟨Pi, 0, none⟩ (.int .i64 W)).setCell ⟨Pi, 1, none⟩ (.int .i64 H)).setCell ⟨Pi, 2, none⟩ (.int .i64 B)).setCell ⟨Pi, 3, none⟩ (.string s)).setCell ⟨Pm, 0, none⟩ (.int .i64 a)).setCell ⟨Pm, 1, none⟩ (.int .i64 b)).setCell ⟨Pm, 2, none⟩ (.int .i64 c2)).setCell ⟨Pm, 3, none⟩ (.int .i64 d)).setCell ⟨Pm, 4, none⟩ (.int .i64 e)).setCell ⟨Pm, 5, none⟩ (.int .i64 f)).setCell ⟨Pp, 0, none⟩ (.int .i64 8)).setCell ⟨Pp, 1, none⟩ (.int .i64 9)).setCell ⟨Pp, 2, none⟩ (.slice (some ⟨gp, 0, none⟩) N N)).setCell ⟨Pr, 0, none⟩ (.int .i64 8)).setCell ⟨Pr, 1, none⟩ (.int .i64 9)).setCell ⟨Pr, 2, none⟩ (.slice D1 9 d1)).heap.size = w3.heap.size ∧ (∀ bq, ¬ (bq = Pi ∨ bq = Pm ∨ bq = Pp ∨ bq = Pr) → ∀ o, ((((((((((((((((w3.setCell ⟨Pi, 0, none⟩ (.int .i64 W)).setCell ⟨Pi, 1, none⟩ (.int .i64 H)).setCell ⟨Pi, 2, none⟩ (.int .i64 B)).setCell ⟨Pi, 3, none⟩ (.string s)).setCell ⟨Pm, 0, none⟩ (.int .i64 a)).setCell ⟨Pm, 1, none⟩ (.int .i64 b)).setCell ⟨Pm, 2, none⟩ (.int .i64 c2)).setCell ⟨Pm, 3, none⟩ (.int .i64 d)).setCell ⟨Pm, 4, none⟩ (.int .i64 e)).setCell ⟨Pm, 5, none⟩ (.int .i64 f)).setCell ⟨Pp, 0, none⟩ (.int .i64 8)).setCell ⟨Pp, 1, none⟩ (.int .i64 9)).setCell ⟨Pp, 2, none⟩ (.slice (some ⟨gp, 0, none⟩) N N)).setCell ⟨Pr, 0, none⟩ (.int .i64 8)).setCell ⟨Pr, 1, none⟩ (.int .i64 9)).setCell ⟨Pr, 2, none⟩ (.slice D1 9 d1)).cell? ⟨bq, o, none⟩ = w3.cell? ⟨bq, o, none⟩) := ⟨Ki, Km, Kp, Kr, hbw, hsz, hag⟩
  clear Ki Km Kp Kr hbw hsz hag
  refine HKx.out _ _ ?_
  clear HKx Kx
  revert hex
  generalize hwx : ((((((((((((((((w3.setCell ⟨Pi, 0, none⟩ (.int .i64 W)).setCell ⟨Pi, 1, none⟩ (.int .i64 H)).setCell ⟨Pi, 2, none⟩ (.int .i64 B)).setCell ⟨Pi, 3, none⟩ (.string s)).setCell ⟨Pm, 0, none⟩ (.int .i64 a)).setCell ⟨Pm, 1, none⟩ (.int .i64 b)).setCell ⟨Pm, 2, none⟩ (.int .i64 c2)).setCell ⟨Pm, 3, none⟩ (.int .i64 d)).setCell ⟨Pm, 4, none⟩ (.int .i64 e)).setCell ⟨Pm, 5, none⟩ (.int .i64 f)).setCell ⟨Pp, 0, none⟩ (.int .i64 8)).setCell ⟨Pp, 1, none⟩ (.int .i64 9)).setCell ⟨Pp, 2, none⟩ (.slice (some ⟨gp, 0, none⟩) N N)).setCell ⟨Pr, 0, none⟩ (.int .i64 8)).setCell ⟨Pr, 1, none⟩ (.int .i64 9)).setCell ⟨Pr, 2, none⟩ (.slice D1 9 d1)) = w4
  intro hex
  clear hwx
  obtain ⟨Ki, Km, Kp, Kr, hbw, hsz, hag⟩ := hex
  have hP := Pg.agree HhP.out HNP.out (fun b => b = Pi ∨ b = Pm ∨ b = Pp ∨ b = Pr) HZR.out hsz hag
  have hR := Rows.agree HhR.out (by decide) (fun b => b = Pi ∨ b = Pm ∨ b = Pp ∨ b = Pr) HZR.out hsz hag
  clear hsz hag HhP HhR HZR
  clear cKi0 fKi0 cKi1 fKi1 cKi2 fKi2 cKi3 fKi3 cKm0 fKm0 cKm1 fKm1 cKm2 fKm2 cKm3 fKm3 cKm4 fKm4 cKm5 fKm5 cKp0 fKp0 cKp1 fKp1 cKp2 fKp2 cKr0 fKr0 cKr1 fKr1 cKr2 fKr2 hs0 hi0 hi1 hm0 hm1 hp0 hp1 hr0 hr1
  have HhP := Lib.hid hP
  clear hP
  have HhR := Lib.hid hR
  clear hR
  have lKi := Ki.lt
  have cKi0 := Ki.cell 0
  have cKi1 := Ki.cell 1
  have cKi2 := Ki.cell 2
  have cKi3 := Ki.cell 3
  have lKm := Km.lt
  have cKm0 := Km.cell 0
  have cKm1 := Km.cell 1
  have cKm2 := Km.cell 2
  have cKm3 := Km.cell 3
  have cKm4 := Km.cell 4
  have cKm5 := Km.cell 5
  have lKp := Kp.lt
  have cKp0 := Kp.cell 0
  have cKp1 := Kp.cell 1
  have cKp2 := Kp.cell 2
  have lKr := Kr.lt
  have cKr0 := Kr.cell 0
  have cKr1 := Kr.cell 1
  have cKr2 := Kr.cell 2
  simp only [List.getElem?_toArray, List.getElem?_cons_succ, List.getElem?_cons_zero] at cKi0 cKi1 cKi2 cKi3 cKm0 cKm1 cKm2 cKm3 cKm4 cKm5 cKp0 cKp1 cKp2 cKr0 cKr1 cKr2
  clear HI1 HI3 HI4
  go_wp2_with fail
  have hst0 : Below w4.heap.size w4 w4 := by (repeat' (first | exact Below.refl _ _ | exact Below.refl _ _ | refine balloc ?_ _ | refine Below.drew ?_ | refine below_drewN ?_ _ | refine bset ?_ (by first | omega | (simp <;> omega)) _))
  refine (HNT.out _ _ _ _ (HhR.out.below hst0)).mono ?_
  rintro e_ w5 ⟨gn, hgn, rfl, hNt, hb⟩
  clear hgn
  have hst : Below w4.heap.size w4 w5 := btrans hst0 hb
  replace Ki := Ki.below hb Ki.lt
  replace Km := Km.below hb Km.lt
  replace Kp := Kp.below hb Kp.lt
  replace Kr := Kr.below hb Kr.lt
  replace hbw : Below w.heap.size w w5 := btrans hbw hst
  replace HhP := Lib.hid (HhP.out.below hst)
  replace HhR := Lib.hid (HhR.out.below hst)
  clear hst hst0 hb lKi cKi0 cKi1 cKi2 cKi3 lKm cKm0 cKm1 cKm2 cKm3 cKm4 cKm5 lKp cKp0 cKp1 cKp2 lKr cKr0 cKr1 cKr2
  have HhNt := Lib.hid hNt
  clear hNt
  have lKi := Ki.lt
  have cKi0 := Ki.cell 0
  have cKi1 := Ki.cell 1
  have cKi2 := Ki.cell 2
  have cKi3 := Ki.cell 3
  have lKm := Km.lt
  have cKm0 := Km.cell 0
  have cKm1 := Km.cell 1
  have cKm2 := Km.cell 2
  have cKm3 := Km.cell 3
  have cKm4 := Km.cell 4
  have cKm5 := Km.cell 5
  have lKp := Kp.lt
  have cKp0 := Kp.cell 0
  have cKp1 := Kp.cell 1
  have cKp2 := Kp.cell 2
  have lKr := Kr.lt
  have cKr0 := Kr.cell 0
  have cKr1 := Kr.cell 1
  have cKr2 := Kr.cell 2
  simp only [List.getElem?_toArray, List.getElem?_cons_succ, List.getElem?_cons_zero] at cKi0 cKi1 cKi2 cKi3 cKm0 cKm1 cKm2 cKm3 cKm4 cKm5 cKp0 cKp1 cKp2 cKr0 cKr1 cKr2
  go_wp2_with fail
  have hst0 : Below w5.heap.size w5 (w5.alloc (.cells #[.int .i64 8, .int .i64 9, .slice (some ⟨gn, 0, none⟩) 9 9] 51)) := by (repeat' (first | exact Below.refl _ _ | exact Below.refl _ _ | refine balloc ?_ _ | refine Below.drew ?_ | refine below_drewN ?_ _ | refine bset ?_ (by first | omega | (simp <;> omega)) _))
  refine (HAL.out _).mono ?_
  rintro e_ w6 ⟨gA, hgA, rfl, hAl, hb⟩
  clear hgA
  have hst : Below w5.heap.size w5 w6 := btrans hst0 hb
  replace Ki := (Ki.alloc (.cells #[.int .i64 8, .int .i64 9, .slice (some ⟨gn, 0, none⟩) 9 9] 51))
  replace Km := (Km.alloc (.cells #[.int .i64 8, .int .i64 9, .slice (some ⟨gn, 0, none⟩) 9 9] 51))
  replace Kp := (Kp.alloc (.cells #[.int .i64 8, .int .i64 9, .slice (some ⟨gn, 0, none⟩) 9 9] 51))
  replace Kr := (Kr.alloc (.cells #[.int .i64 8, .int .i64 9, .slice (some ⟨gn, 0, none⟩) 9 9] 51))
  have Kn := (Blk.new w5 51 #[.int .i64 8, .int .i64 9, .slice (some ⟨gn, 0, none⟩) 9 9])
  replace Ki := Ki.below hb Ki.lt
  replace Km := Km.below hb Km.lt
  replace Kp := Kp.below hb Kp.lt
  replace Kr := Kr.below hb Kr.lt
  replace Kn := Kn.below hb Kn.lt
  replace hbw : Below w.heap.size w w6 := btrans hbw hst
  replace HhP := Lib.hid (HhP.out.below hst)
  replace HhR := Lib.hid (HhR.out.below hst)
  replace HhNt := Lib.hid (HhNt.out.below hst)
  clear hst hst0 hb lKi cKi0 cKi1 cKi2 cKi3 lKm cKm0 cKm1 cKm2 cKm3 cKm4 cKm5 lKp cKp0 cKp1 cKp2 lKr cKr0 cKr1 cKr2
  have HhAl := Lib.hid hAl
  clear hAl
  have lKi := Ki.lt
  have cKi0 := Ki.cell 0
  have cKi1 := Ki.cell 1
  have cKi2 := Ki.cell 2
  have cKi3 := Ki.cell 3
  have lKm := Km.lt
  have cKm0 := Km.cell 0
  have cKm1 := Km.cell 1
  have cKm2 := Km.cell 2
  have cKm3 := Km.cell 3
  have cKm4 := Km.cell 4
  have cKm5 := Km.cell 5
  have lKp := Kp.lt
  have cKp0 := Kp.cell 0
  have cKp1 := Kp.cell 1
  have cKp2 := Kp.cell 2
  have lKr := Kr.lt
  have cKr0 := Kr.cell 0
  have cKr1 := Kr.cell 1
  have cKr2 := Kr.cell 2
  have lKn := Kn.lt
  have cKn0 := Kn.cell 0
  have cKn1 := Kn.cell 1
  have cKn2 := Kn.cell 2
  simp only [List.getElem?_toArray, List.getElem?_cons_succ, List.getElem?_cons_zero] at cKi0 cKi1 cKi2 cKi3 cKm0 cKm1 cKm2 cKm3 cKm4 cKm5 cKp0 cKp1 cKp2 cKr0 cKr1 cKr2 cKn0 cKn1 cKn2
  go_wp2_with fail
  have hst0 : Below w6.heap.size w6 (w6.alloc (.cells #[.int .i64 8, .int .i64 9, .slice (some ⟨gA, 0, none⟩) 9 9] 51)) := by (repeat' (first | exact Below.refl _ _ | exact Below.refl _ _ | refine balloc ?_ _ | refine Below.drew ?_ | refine below_drewN ?_ _ | refine bset ?_ (by first | omega | (simp <;> omega)) _))
  refine (HPT.out _ _ _ _ _ _ (HhR.out.below hst0)).mono ?_
  rintro e_ w7 ⟨rfl, hb⟩
  have hst : Below w6.heap.size w6 w7 := btrans hst0 hb
  replace Ki := (Ki.alloc (.cells #[.int .i64 8, .int .i64 9, .slice (some ⟨gA, 0, none⟩) 9 9] 51))
  replace Km := (Km.alloc (.cells #[.int .i64 8, .int .i64 9, .slice (some ⟨gA, 0, none⟩) 9 9] 51))
  replace Kp := (Kp.alloc (.cells #[.int .i64 8, .int .i64 9, .slice (some ⟨gA, 0, none⟩) 9 9] 51))
  replace Kr := (Kr.alloc (.cells #[.int .i64 8, .int .i64 9, .slice (some ⟨gA, 0, none⟩) 9 9] 51))
  replace Kn := (Kn.alloc (.cells #[.int .i64 8, .int .i64 9, .slice (some ⟨gA, 0, none⟩) 9 9] 51))
  have KA := (Blk.new w6 51 #[.int .i64 8, .int .i64 9, .slice (some ⟨gA, 0, none⟩) 9 9])
  replace Ki := Ki.below hb Ki.lt
  replace Km := Km.below hb Km.lt
  replace Kp := Kp.below hb Kp.lt
  replace Kr := Kr.below hb Kr.lt
  replace Kn := Kn.below hb Kn.lt
  replace KA := KA.below hb KA.lt
  replace hbw : Below w.heap.size w w7 := btrans hbw hst
  replace HhP := Lib.hid (HhP.out.below hst)
  replace HhR := Lib.hid (HhR.out.below hst)
  replace HhNt := Lib.hid (HhNt.out.below hst)
  replace HhAl := Lib.hid (HhAl.out.below hst)
  clear hst hst0 hb lKi cKi0 cKi1 cKi2 cKi3 lKm cKm0 cKm1 cKm2 cKm3 cKm4 cKm5 lKp cKp0 cKp1 cKp2 lKr cKr0 cKr1 cKr2 lKn cKn0 cKn1 cKn2
  have lKi := Ki.lt
  have cKi0 := Ki.cell 0
  have cKi1 := Ki.cell 1
  have cKi2 := Ki.cell 2
  have cKi3 := Ki.cell 3
  have lKm := Km.lt
  have cKm0 := Km.cell 0
  have cKm1 := Km.cell 1
  have cKm2 := Km.cell 2
  have cKm3 := Km.cell 3
  have cKm4 := Km.cell 4
  have cKm5 := Km.cell 5
  have lKp := Kp.lt
  have cKp0 := Kp.cell 0
  have cKp1 := Kp.cell 1
  have cKp2 := Kp.cell 2
  have lKr := Kr.lt
  have cKr0 := Kr.cell 0
  have cKr1 := Kr.cell 1
  have cKr2 := Kr.cell 2
  have lKn := Kn.lt
  have cKn0 := Kn.cell 0
  have cKn1 := Kn.cell 1
  have cKn2 := Kn.cell 2
  have lKA := KA.lt
  have cKA0 := KA.cell 0
  have cKA1 := KA.cell 1
  have cKA2 := KA.cell 2
  simp only [List.getElem?_toArray, List.getElem?_cons_succ, List.getElem?_cons_zero] at cKi0 cKi1 cKi2 cKi3 cKm0 cKm1 cKm2 cKm3 cKm4 cKm5 cKp0 cKp1 cKp2 cKr0 cKr1 cKr2 cKn0 cKn1 cKn2 cKA0 cKA1 cKA2
  go_wp2_with fail
  have hst0 : Below w7.heap.size w7 (w7.alloc (.cells #[.int .i64 0, .int .i64 0, .slice none 0 0] 46)) := by (repeat' (first | exact Below.refl _ _ | exact Below.refl _ _ | refine balloc ?_ _ | refine Below.drew ?_ | refine below_drewN ?_ _ | refine bset ?_ (by first | omega | (simp <;> omega)) _))
  refine (HRG.out _).mono ?_
  rintro e_ w8 ⟨rfl, hb⟩
  have hst : Below w7.heap.size w7 w8 := btrans hst0 hb
  replace Ki := (Ki.alloc (.cells #[.int .i64 0, .int .i64 0, .slice none 0 0] 46))
  replace Km := (Km.alloc (.cells #[.int .i64 0, .int .i64 0, .slice none 0 0] 46))
  replace Kp := (Kp.alloc (.cells #[.int .i64 0, .int .i64 0, .slice none 0 0] 46))
  replace Kr := (Kr.alloc (.cells #[.int .i64 0, .int .i64 0, .slice none 0 0] 46))
  replace Kn := (Kn.alloc (.cells #[.int .i64 0, .int .i64 0, .slice none 0 0] 46))
  replace KA := (KA.alloc (.cells #[.int .i64 0, .int .i64 0, .slice none 0 0] 46))
  have Kx := (Blk.new w7 46 #[.int .i64 0, .int .i64 0, .slice none 0 0])
  replace Ki := Ki.below hb Ki.lt
  replace Km := Km.below hb Km.lt
  replace Kp := Kp.below hb Kp.lt
  replace Kr := Kr.below hb Kr.lt
  replace Kn := Kn.below hb Kn.lt
  replace KA := KA.below hb KA.lt
  replace Kx := Kx.below hb Kx.lt
  replace hbw : Below w.heap.size w w8 := btrans hbw hst
  replace HhP := Lib.hid (HhP.out.below hst)
  replace HhR := Lib.hid (HhR.out.below hst)
  replace HhNt := Lib.hid (HhNt.out.below hst)
  replace HhAl := Lib.hid (HhAl.out.below hst)
  clear hst hst0 hb lKi cKi0 cKi1 cKi2 cKi3 lKm cKm0 cKm1 cKm2 cKm3 cKm4 cKm5 lKp cKp0 cKp1 cKp2 lKr cKr0 cKr1 cKr2 lKn cKn0 cKn1 cKn2 lKA cKA0 cKA1 cKA2 Kp Kr Kn KA
  have lKi := Ki.lt
  have cKi0 := Ki.cell 0
  have cKi1 := Ki.cell 1
  have cKi2 := Ki.cell 2
  have cKi3 := Ki.cell 3
  have lKm := Km.lt
  have cKm0 := Km.cell 0
  have cKm1 := Km.cell 1
  have cKm2 := Km.cell 2
  have cKm3 := Km.cell 3
  have cKm4 := Km.cell 4
  have cKm5 := Km.cell 5
  have lKx := Kx.lt
  have cKx0 := Kx.cell 0
  have cKx1 := Kx.cell 1
  have cKx2 := Kx.cell 2
  simp only [List.getElem?_toArray, List.getElem?_cons_succ, List.getElem?_cons_zero] at cKi0 cKi1 cKi2 cKi3 cKm0 cKm1 cKm2 cKm3 cKm4 cKm5 cKx0 cKx1 cKx2
  go_wp2_with fail
  have hst0 : Below w8.heap.size w8 (w8.alloc (.cells #[.int .i64 0, .int .i64 0, .slice none 0 0] 51)) := by (repeat' (first | exact Below.refl _ _ | exact Below.refl _ _ | refine balloc ?_ _ | refine Below.drew ?_ | refine below_drewN ?_ _ | refine bset ?_ (by first | omega | (simp <;> omega)) _))
  refine (HAt.out _).mono ?_
  rintro e_ w9 ⟨rfl, hb⟩
  have hst : Below w8.heap.size w8 w9 := btrans hst0 hb
  replace Ki := (Ki.alloc (.cells #[.int .i64 0, .int .i64 0, .slice none 0 0] 51))
  replace Km := (Km.alloc (.cells #[.int .i64 0, .int .i64 0, .slice none 0 0] 51))
  replace Kx := (Kx.alloc (.cells #[.int .i64 0, .int .i64 0, .slice none 0 0] 51))
  have Ky := (Blk.new w8 51 #[.int .i64 0, .int .i64 0, .slice none 0 0])
  replace Ki := Ki.below hb Ki.lt
  replace Km := Km.below hb Km.lt
  replace Kx := Kx.below hb Kx.lt
  replace Ky := Ky.below hb Ky.lt
  replace hbw : Below w.heap.size w w9 := btrans hbw hst
  replace HhP := Lib.hid (HhP.out.below hst)
  replace HhR := Lib.hid (HhR.out.below hst)
  replace HhNt := Lib.hid (HhNt.out.below hst)
  replace HhAl := Lib.hid (HhAl.out.below hst)
  clear hst hst0 hb lKi cKi0 cKi1 cKi2 cKi3 lKm cKm0 cKm1 cKm2 cKm3 cKm4 cKm5 lKx cKx0 cKx1 cKx2
  have lKi := Ki.lt
  have cKi0 := Ki.cell 0
  have cKi1 := Ki.cell 1
  have cKi2 := Ki.cell 2
  have cKi3 := Ki.cell 3
  have lKm := Km.lt
  have cKm0 := Km.cell 0
  have cKm1 := Km.cell 1
  have cKm2 := Km.cell 2
  have cKm3 := Km.cell 3
  have cKm4 := Km.cell 4
  have cKm5 := Km.cell 5
  have lKx := Kx.lt
  have cKx0 := Kx.cell 0
  have cKx1 := Kx.cell 1
  have cKx2 := Kx.cell 2
  have lKy := Ky.lt
  have cKy0 := Ky.cell 0
  have cKy1 := Ky.cell 1
  have cKy2 := Ky.cell 2
  simp only [List.getElem?_toArray, List.getElem?_cons_succ, List.getElem?_cons_zero] at cKi0 cKi1 cKi2 cKi3 cKm0 cKm1 cKm2 cKm3 cKm4 cKm5 cKx0 cKx1 cKx2 cKy0 cKy1 cKy2
  go_wp2_with fail
  go_ret
  exact ⟨rfl, by (repeat' (first | refine bset ?_ (by first | omega | (simp <;> omega)) _ | refine balloc ?_ _ | refine Below.drew ?_ | refine below_drewN ?_ _ | exact hbw | exact Below.refl _ _))⟩

set_option maxRecDepth 100000 in
set_option maxHeartbeats 6400000 in
theorem iparts_yes (A : Option Addr) (n c : Nat) (ns : Nat → Int) (bits a0 a1 a2 a3 a4 a5 : Int) (A3 : Option Addr) (n3 c3 : Nat) (ns3 : Nat → Int) (A4 : Option Addr) (n4 c4 : Nat) (ns4 : Nat → Int) (W H B a b c2 d e f : Int) (s : ByteArray) (w : World) (hr : Ints w A n c ns) (hr3 : Ints w A3 n3 c3 ns3) (hn3 : n3 ≤ 9223372036854775807) (hr4 : Ints w A4 n4 c4 ns4) (hn4 : n4 ≤ 9223372036854775807)
    (HMd : Hid (∀ W', Ints W' A n c ns → Calls Try.prog 23 #[.slice A n c, .int .i64 bits] W' fun ed w' => ed = .returned (.agg #[.int .i64 W, .int .i64 H, .int .i64 B, .string s]) ∧ Below W'.heap.size W' w'))
    (HTu : Hid (∀ W', Calls Try.prog 24 #[.agg #[.int .i64 a0, .int .i64 a1, .int .i64 a2, .int .i64 a3, .int .i64 a4, .int .i64 a5]] W' fun ed w' => ed = .returned (.agg #[.int .i64 a, .int .i64 b, .int .i64 c2, .int .i64 d, .int .i64 e, .int .i64 f]) ∧ Below W'.heap.size W' w'))
    (hmay : mayI W H B s.size = true) (hmat : mt.mayB a b c2 d e f = true) (hd : ¬ a * d - b * c2 = 0) :
    Calls Try.prog 11 #[.slice A n c, .int .i64 bits, .agg #[.int .i64 a0, .int .i64 a1, .int .i64 a2, .int .i64 a3, .int .i64 a4, .int .i64 a5], .slice A3 n3 c3, .slice A4 n4 c4] w fun ed w' => ed = .returned (.bool true) ∧ Below w.heap.size w w' := by
  have hs := may_size hmay
  obtain ⟨N, hN⟩ : ∃ N, N = 3 * (8 * 9) := ⟨_, rfl⟩
  have HNP := Lib.hid (show 0 < N by rw [hN]; decide)
  have HPG := Lib.hid (fun W' h => lpage_any A3 n3 c3 ns3 8 9 N W' h hn3 (by decide) (by decide) hN)
  have HM3 := Lib.hid (fun W' h => lmade_any A4 n4 c4 ns4 8 9 W' h hn4 (by decide) (by decide))
  have HAL := Lib.hid (fun W' => rall_any 8 9 W' (by decide) (by decide))
  have HPT := Lib.hid (fun cp dr A D R Y W' hp hr => paint_any W H B a b c2 d e f _ s 8 9 N cp dr A D R Y W' (by decide) (by decide) hN hs hmay hmat rfl hd hp hr)
  have HPS := Lib.hid (fun c d A D B C W' ha hb h => psame_yes 8 9 N c d A D B C W' ha hb h)
  have HNT := Lib.hid (fun c A R W' hr => rnot_any 8 9 c A R W' (by decide) (by decide) hr)
  have HUN := Lib.hid (fun c d A D B C W' hp hq => unlike_any 8 9 N c d A D B C W' (by decide) (by decide) hN hp hq)
  have HLE := Lib.hid (fun c d A B R S W' ha hb => rless_any 8 9 c d A B R S W' (by decide) (by decide) ha hb)
  have HCN := Lib.hid (fun d D R W' hr hR => rcount_zero 8 9 d D R W' (by decide) (by decide) hr hR)
  have HI1 := Lib.hid hr
  have HI3 := Lib.hid hr3
  have HI4 := Lib.hid hr4
  clear hs hmay hmat hd hN hr hr3 hr4 hn3 hn4
  go_enter Try.func11, Try.ntmps11
  go_wp2_with fail
  have hst0 : Below w.heap.size w (w.alloc (.cells #[.int .i64 a0, .int .i64 a1, .int .i64 a2, .int .i64 a3, .int .i64 a4, .int .i64 a5] 34)) := by (repeat' (first | exact Below.refl _ _ | exact Below.refl _ _ | refine balloc ?_ _ | refine Below.drew ?_ | refine below_drewN ?_ _ | refine bset ?_ (by first | omega | (simp <;> omega)) _))
  refine (known_any _).mono ?_
  rintro e_ w1 ⟨rfl, hb⟩
  have hst : Below w.heap.size w w1 := btrans hst0 hb
  have Ka := (Blk.new w 34 #[.int .i64 a0, .int .i64 a1, .int .i64 a2, .int .i64 a3, .int .i64 a4, .int .i64 a5])
  replace Ka := Ka.below hb Ka.lt
  have hbw : Below w.heap.size w w1 := hst
  replace HI1 := Lib.hid (HI1.out.below hst)
  replace HI3 := Lib.hid (HI3.out.below hst)
  replace HI4 := Lib.hid (HI4.out.below hst)
  clear hst hst0 hb 
  have lKa := Ka.lt
  have cKa0 := Ka.cell 0
  have cKa1 := Ka.cell 1
  have cKa2 := Ka.cell 2
  have cKa3 := Ka.cell 3
  have cKa4 := Ka.cell 4
  have cKa5 := Ka.cell 5
  simp only [List.getElem?_toArray, List.getElem?_cons_succ, List.getElem?_cons_zero] at cKa0 cKa1 cKa2 cKa3 cKa4 cKa5
  go_wp2_with fail
  refine wp_region_chain4 9 [0, 1, 2, 3, 4, 5, 7] [6, 8] (.cells #[.int .i64 0, .int .i64 0, .int .i64 0, .string ⟨#[]⟩] 23) (.cells #[.int .i64 0, .int .i64 0, .int .i64 0, .int .i64 0, .int .i64 0, .int .i64 0] 25) (.cells #[.int .i64 0, .int .i64 0, .slice none 0 0] 46) (.cells #[.int .i64 0, .int .i64 0, .slice none 0 0] 51) _ _ _ _ (by kernel_rfl) (by kernel_rfl) rfl rfl rfl rfl (fun ρ w => alloc_img2 _ _ _ _ _ ρ w) (fun ρ w => alloc_mat2 _ _ _ _ _ ρ w) (fun ρ w => alloc_page2 _ _ _ _ _ ρ w) (fun ρ w => alloc_reg2 _ _ _ _ _ ρ w) ?_
  intro u0
  have uKa0 : ∀ u : Up u0.val, u.val.cell? ⟨w.heap.size, 0, none⟩ = some (.int .i64 a0) := fun u => ((u.cell (Nat.lt_of_lt_of_le lKa u0.ok.size)).trans (u0.cell lKa)).trans cKa0
  have uKa1 : ∀ u : Up u0.val, u.val.cell? ⟨w.heap.size, 1, none⟩ = some (.int .i64 a1) := fun u => ((u.cell (Nat.lt_of_lt_of_le lKa u0.ok.size)).trans (u0.cell lKa)).trans cKa1
  have uKa2 : ∀ u : Up u0.val, u.val.cell? ⟨w.heap.size, 2, none⟩ = some (.int .i64 a2) := fun u => ((u.cell (Nat.lt_of_lt_of_le lKa u0.ok.size)).trans (u0.cell lKa)).trans cKa2
  have uKa3 : ∀ u : Up u0.val, u.val.cell? ⟨w.heap.size, 3, none⟩ = some (.int .i64 a3) := fun u => ((u.cell (Nat.lt_of_lt_of_le lKa u0.ok.size)).trans (u0.cell lKa)).trans cKa3
  have uKa4 : ∀ u : Up u0.val, u.val.cell? ⟨w.heap.size, 4, none⟩ = some (.int .i64 a4) := fun u => ((u.cell (Nat.lt_of_lt_of_le lKa u0.ok.size)).trans (u0.cell lKa)).trans cKa4
  have uKa5 : ∀ u : Up u0.val, u.val.cell? ⟨w.heap.size, 5, none⟩ = some (.int .i64 a5) := fun u => ((u.cell (Nat.lt_of_lt_of_le lKa u0.ok.size)).trans (u0.cell lKa)).trans cKa5
  have HU1 := Lib.hid (fun u : Up u0.val => up_of (u := u) (HMd.out u.val (HI1.out.below (btrans u0.ok u.ok))))
  have HU2 := Lib.hid (fun u : Up u0.val => up_of (u := u) (HTu.out u.val))
  change wpQuiet _ _ _ _ (_ :: _ :: _ :: _ :: _ :: _ :: _ :: []) _
  unfold upC
  simp only [List.getElem_toArray, List.getElem_cons_succ, List.getElem_cons_zero]
  repeat (go_big_quiet_step (fail))
  go_big_quiet_step (exact HU1.out _)
  repeat (go_big_quiet_step (fail))
  go_big_quiet_step (exact HU2.out _)
  repeat (go_big_quiet_step (fail))
  refine wpQuiet_nil ?_
  clear HU1 HU2 uKa0 uKa1 uKa2 uKa3 uKa4 uKa5 u0 HMd HTu lKa cKa0 cKa1 cKa2 cKa3 cKa4 cKa5 Ka
  refine fun V1 hV1 => ?_
  refine stepV_of _ 28 #[.slice A3 n3 c3, .int .i64 8, .int .i64 9] rfl (by kernel_rfl) (by kernel_rfl) ?_
  refine (HPG.out V1 (HI3.out.below hV1)).mono ?_
  rintro e_ V2 ⟨gp, Y, rfl, hP, hb2⟩
  refine ⟨_, rfl, hb2, ?_⟩
  refine fun V3 hV3 => ?_
  refine stepV_of _ 46 #[.slice A4 n4 c4, .int .i64 8, .int .i64 9] rfl (by kernel_rfl) (by kernel_rfl) ?_
  refine (HM3.out V3 (HI4.out.below (btrans (btrans hV1 hb2) hV3))).mono ?_
  rintro e_ V4 ⟨D1, d1, R, rfl, hR, hb4⟩
  refine ⟨_, rfl, hb4, ?_⟩
  refine fun w3 hV5 Pi Pm Pp Pr ⟨hi0, hi1, Ki⟩ ⟨hm0, hm1, Km⟩ ⟨hp0, hp1, Kp⟩ ⟨hr0, hr1, Kr⟩ ⟨⟨n1, n2, n3⟩, ⟨n4, n5⟩, n6⟩ => ?_
  have HhP := Lib.hid (hP.below (btrans (btrans hV3 hb4) hV5))
  have HhR := Lib.hid (hR.below hV5)
  have hst := btrans (btrans (btrans hV1 hb2) (btrans hV3 hb4)) hV5
  have hs0 := hbw.size
  replace hbw := btrans hbw hst
  clear hP hR hV1 hb2 hV3 hb4 hst hV5
  replace Ki : Blk w3 Pi 23 #[.int .i64 0, .int .i64 0, .int .i64 0, .string ⟨#[]⟩] := Ki
  replace Km : Blk w3 Pm 25 #[.int .i64 0, .int .i64 0, .int .i64 0, .int .i64 0, .int .i64 0, .int .i64 0] := Km
  replace Kp : Blk w3 Pp 46 #[.int .i64 0, .int .i64 0, .slice none 0 0] := Kp
  replace Kr : Blk w3 Pr 51 #[.int .i64 0, .int .i64 0, .slice none 0 0] := Kr
  simp only [Act.put, List.setIfInBounds_toArray, List.set_cons_zero, List.set_cons_succ, List.drop_succ_cons, List.drop_zero]
  have cKi0 := Ki.cell 0
  have fKi0 := Ki.frozen 0
  have cKi1 := Ki.cell 1
  have fKi1 := Ki.frozen 1
  have cKi2 := Ki.cell 2
  have fKi2 := Ki.frozen 2
  have cKi3 := Ki.cell 3
  have fKi3 := Ki.frozen 3
  have cKm0 := Km.cell 0
  have fKm0 := Km.frozen 0
  have cKm1 := Km.cell 1
  have fKm1 := Km.frozen 1
  have cKm2 := Km.cell 2
  have fKm2 := Km.frozen 2
  have cKm3 := Km.cell 3
  have fKm3 := Km.frozen 3
  have cKm4 := Km.cell 4
  have fKm4 := Km.frozen 4
  have cKm5 := Km.cell 5
  have fKm5 := Km.frozen 5
  have cKp0 := Kp.cell 0
  have fKp0 := Kp.frozen 0
  have cKp1 := Kp.cell 1
  have fKp1 := Kp.frozen 1
  have cKp2 := Kp.cell 2
  have fKp2 := Kp.frozen 2
  have cKr0 := Kr.cell 0
  have fKr0 := Kr.frozen 0
  have cKr1 := Kr.cell 1
  have fKr1 := Kr.frozen 1
  have cKr2 := Kr.cell 2
  have fKr2 := Kr.frozen 2
  simp only [List.getElem?_toArray, List.getElem?_cons_succ, List.getElem?_cons_zero] at cKi0 cKi1 cKi2 cKi3 cKm0 cKm1 cKm2 cKm3 cKm4 cKm5 cKp0 cKp1 cKp2 cKr0 cKr1 cKr2
  have HZR := Lib.hid (show ∀ b, (b = Pi ∨ b = Pm ∨ b = Pp ∨ b = Pr) → Zero w3 b by
    rintro b (rfl | rfl | rfl | rfl)
    · exact Zero.blk Ki zero_img
    · exact Zero.blk Km zero_mat
    · exact Zero.blk Kp zero_page
    · exact Zero.blk Kr zero_page)
  refine wpList_stop fun Kx HKx => ?_
  go_wp2_with fail
  replace Ki : Blk _ Pi 23 #[.int .i64 W, .int .i64 H, .int .i64 B, .string s] := blk_cast ((((((((((((((((Ki.set_ 0 (.int .i64 W)).set_ 1 (.int .i64 H)).set_ 2 (.int .i64 B)).set_ 3 (.string s)).far (p := ⟨Pm, 0, none⟩) n1 (.int .i64 a)).far (p := ⟨Pm, 1, none⟩) n1 (.int .i64 b)).far (p := ⟨Pm, 2, none⟩) n1 (.int .i64 c2)).far (p := ⟨Pm, 3, none⟩) n1 (.int .i64 d)).far (p := ⟨Pm, 4, none⟩) n1 (.int .i64 e)).far (p := ⟨Pm, 5, none⟩) n1 (.int .i64 f)).far (p := ⟨Pp, 0, none⟩) n2 (.int .i64 8)).far (p := ⟨Pp, 1, none⟩) n2 (.int .i64 9)).far (p := ⟨Pp, 2, none⟩) n2 (.slice (some ⟨gp, 0, none⟩) N N)).far (p := ⟨Pr, 0, none⟩) n3 (.int .i64 8)).far (p := ⟨Pr, 1, none⟩) n3 (.int .i64 9)).far (p := ⟨Pr, 2, none⟩) n3 (.slice D1 9 d1)) (by kernel_rfl)
  replace Km : Blk _ Pm 25 #[.int .i64 a, .int .i64 b, .int .i64 c2, .int .i64 d, .int .i64 e, .int .i64 f] := blk_cast ((((((((((((((((Km.far (p := ⟨Pi, 0, none⟩) n1.symm (.int .i64 W)).far (p := ⟨Pi, 1, none⟩) n1.symm (.int .i64 H)).far (p := ⟨Pi, 2, none⟩) n1.symm (.int .i64 B)).far (p := ⟨Pi, 3, none⟩) n1.symm (.string s)).set_ 0 (.int .i64 a)).set_ 1 (.int .i64 b)).set_ 2 (.int .i64 c2)).set_ 3 (.int .i64 d)).set_ 4 (.int .i64 e)).set_ 5 (.int .i64 f)).far (p := ⟨Pp, 0, none⟩) n4 (.int .i64 8)).far (p := ⟨Pp, 1, none⟩) n4 (.int .i64 9)).far (p := ⟨Pp, 2, none⟩) n4 (.slice (some ⟨gp, 0, none⟩) N N)).far (p := ⟨Pr, 0, none⟩) n5 (.int .i64 8)).far (p := ⟨Pr, 1, none⟩) n5 (.int .i64 9)).far (p := ⟨Pr, 2, none⟩) n5 (.slice D1 9 d1)) (by kernel_rfl)
  replace Kp : Blk _ Pp 46 #[.int .i64 8, .int .i64 9, .slice (some ⟨gp, 0, none⟩) N N] := blk_cast ((((((((((((((((Kp.far (p := ⟨Pi, 0, none⟩) n2.symm (.int .i64 W)).far (p := ⟨Pi, 1, none⟩) n2.symm (.int .i64 H)).far (p := ⟨Pi, 2, none⟩) n2.symm (.int .i64 B)).far (p := ⟨Pi, 3, none⟩) n2.symm (.string s)).far (p := ⟨Pm, 0, none⟩) n4.symm (.int .i64 a)).far (p := ⟨Pm, 1, none⟩) n4.symm (.int .i64 b)).far (p := ⟨Pm, 2, none⟩) n4.symm (.int .i64 c2)).far (p := ⟨Pm, 3, none⟩) n4.symm (.int .i64 d)).far (p := ⟨Pm, 4, none⟩) n4.symm (.int .i64 e)).far (p := ⟨Pm, 5, none⟩) n4.symm (.int .i64 f)).set_ 0 (.int .i64 8)).set_ 1 (.int .i64 9)).set_ 2 (.slice (some ⟨gp, 0, none⟩) N N)).far (p := ⟨Pr, 0, none⟩) n6 (.int .i64 8)).far (p := ⟨Pr, 1, none⟩) n6 (.int .i64 9)).far (p := ⟨Pr, 2, none⟩) n6 (.slice D1 9 d1)) (by kernel_rfl)
  replace Kr : Blk _ Pr 51 #[.int .i64 8, .int .i64 9, .slice D1 9 d1] := blk_cast ((((((((((((((((Kr.far (p := ⟨Pi, 0, none⟩) n3.symm (.int .i64 W)).far (p := ⟨Pi, 1, none⟩) n3.symm (.int .i64 H)).far (p := ⟨Pi, 2, none⟩) n3.symm (.int .i64 B)).far (p := ⟨Pi, 3, none⟩) n3.symm (.string s)).far (p := ⟨Pm, 0, none⟩) n5.symm (.int .i64 a)).far (p := ⟨Pm, 1, none⟩) n5.symm (.int .i64 b)).far (p := ⟨Pm, 2, none⟩) n5.symm (.int .i64 c2)).far (p := ⟨Pm, 3, none⟩) n5.symm (.int .i64 d)).far (p := ⟨Pm, 4, none⟩) n5.symm (.int .i64 e)).far (p := ⟨Pm, 5, none⟩) n5.symm (.int .i64 f)).far (p := ⟨Pp, 0, none⟩) n6.symm (.int .i64 8)).far (p := ⟨Pp, 1, none⟩) n6.symm (.int .i64 9)).far (p := ⟨Pp, 2, none⟩) n6.symm (.slice (some ⟨gp, 0, none⟩) N N)).set_ 0 (.int .i64 8)).set_ 1 (.int .i64 9)).set_ 2 (.slice D1 9 d1)) (by kernel_rfl)
  have hqPi : w.heap.size ≤ Pi := by omega
  have hqPm : w.heap.size ≤ Pm := by omega
  have hqPp : w.heap.size ≤ Pp := by omega
  have hqPr : w.heap.size ≤ Pr := by omega
  have hsz : ((((((((((((((((w3.setCell ⟨Pi, 0, none⟩ (.int .i64 W)).setCell ⟨Pi, 1, none⟩ (.int .i64 H)).setCell ⟨Pi, 2, none⟩ (.int .i64 B)).setCell ⟨Pi, 3, none⟩ (.string s)).setCell ⟨Pm, 0, none⟩ (.int .i64 a)).setCell ⟨Pm, 1, none⟩ (.int .i64 b)).setCell ⟨Pm, 2, none⟩ (.int .i64 c2)).setCell ⟨Pm, 3, none⟩ (.int .i64 d)).setCell ⟨Pm, 4, none⟩ (.int .i64 e)).setCell ⟨Pm, 5, none⟩ (.int .i64 f)).setCell ⟨Pp, 0, none⟩ (.int .i64 8)).setCell ⟨Pp, 1, none⟩ (.int .i64 9)).setCell ⟨Pp, 2, none⟩ (.slice (some ⟨gp, 0, none⟩) N N)).setCell ⟨Pr, 0, none⟩ (.int .i64 8)).setCell ⟨Pr, 1, none⟩ (.int .i64 9)).setCell ⟨Pr, 2, none⟩ (.slice D1 9 d1)).heap.size = w3.heap.size := by simp only [World.size_setCell]
  have hag : ∀ bq, ¬ (bq = Pi ∨ bq = Pm ∨ bq = Pp ∨ bq = Pr) → ∀ o, ((((((((((((((((w3.setCell ⟨Pi, 0, none⟩ (.int .i64 W)).setCell ⟨Pi, 1, none⟩ (.int .i64 H)).setCell ⟨Pi, 2, none⟩ (.int .i64 B)).setCell ⟨Pi, 3, none⟩ (.string s)).setCell ⟨Pm, 0, none⟩ (.int .i64 a)).setCell ⟨Pm, 1, none⟩ (.int .i64 b)).setCell ⟨Pm, 2, none⟩ (.int .i64 c2)).setCell ⟨Pm, 3, none⟩ (.int .i64 d)).setCell ⟨Pm, 4, none⟩ (.int .i64 e)).setCell ⟨Pm, 5, none⟩ (.int .i64 f)).setCell ⟨Pp, 0, none⟩ (.int .i64 8)).setCell ⟨Pp, 1, none⟩ (.int .i64 9)).setCell ⟨Pp, 2, none⟩ (.slice (some ⟨gp, 0, none⟩) N N)).setCell ⟨Pr, 0, none⟩ (.int .i64 8)).setCell ⟨Pr, 1, none⟩ (.int .i64 9)).setCell ⟨Pr, 2, none⟩ (.slice D1 9 d1)).cell? ⟨bq, o, none⟩ = w3.cell? ⟨bq, o, none⟩ := fun bq hb o => by
    have hbPi : Pi ≠ bq := fun e => hb (.inl e.symm)
    have hbPm : Pm ≠ bq := fun e => hb (.inr (.inl e.symm))
    have hbPp : Pp ≠ bq := fun e => hb (.inr (.inr (.inl e.symm)))
    have hbPr : Pr ≠ bq := fun e => hb (.inr (.inr (.inr e.symm)))
    exact (World.cell?_setCell_far _ ⟨Pr, 2, none⟩ ⟨bq, o, none⟩ _ hbPr).trans ((World.cell?_setCell_far _ ⟨Pr, 1, none⟩ ⟨bq, o, none⟩ _ hbPr).trans ((World.cell?_setCell_far _ ⟨Pr, 0, none⟩ ⟨bq, o, none⟩ _ hbPr).trans ((World.cell?_setCell_far _ ⟨Pp, 2, none⟩ ⟨bq, o, none⟩ _ hbPp).trans ((World.cell?_setCell_far _ ⟨Pp, 1, none⟩ ⟨bq, o, none⟩ _ hbPp).trans ((World.cell?_setCell_far _ ⟨Pp, 0, none⟩ ⟨bq, o, none⟩ _ hbPp).trans ((World.cell?_setCell_far _ ⟨Pm, 5, none⟩ ⟨bq, o, none⟩ _ hbPm).trans ((World.cell?_setCell_far _ ⟨Pm, 4, none⟩ ⟨bq, o, none⟩ _ hbPm).trans ((World.cell?_setCell_far _ ⟨Pm, 3, none⟩ ⟨bq, o, none⟩ _ hbPm).trans ((World.cell?_setCell_far _ ⟨Pm, 2, none⟩ ⟨bq, o, none⟩ _ hbPm).trans ((World.cell?_setCell_far _ ⟨Pm, 1, none⟩ ⟨bq, o, none⟩ _ hbPm).trans ((World.cell?_setCell_far _ ⟨Pm, 0, none⟩ ⟨bq, o, none⟩ _ hbPm).trans ((World.cell?_setCell_far _ ⟨Pi, 3, none⟩ ⟨bq, o, none⟩ _ hbPi).trans ((World.cell?_setCell_far _ ⟨Pi, 2, none⟩ ⟨bq, o, none⟩ _ hbPi).trans ((World.cell?_setCell_far _ ⟨Pi, 1, none⟩ ⟨bq, o, none⟩ _ hbPi).trans (World.cell?_setCell_far _ ⟨Pi, 0, none⟩ ⟨bq, o, none⟩ _ hbPi)))))))))))))))
  replace hbw : Below w.heap.size w ((((((((((((((((w3.setCell ⟨Pi, 0, none⟩ (.int .i64 W)).setCell ⟨Pi, 1, none⟩ (.int .i64 H)).setCell ⟨Pi, 2, none⟩ (.int .i64 B)).setCell ⟨Pi, 3, none⟩ (.string s)).setCell ⟨Pm, 0, none⟩ (.int .i64 a)).setCell ⟨Pm, 1, none⟩ (.int .i64 b)).setCell ⟨Pm, 2, none⟩ (.int .i64 c2)).setCell ⟨Pm, 3, none⟩ (.int .i64 d)).setCell ⟨Pm, 4, none⟩ (.int .i64 e)).setCell ⟨Pm, 5, none⟩ (.int .i64 f)).setCell ⟨Pp, 0, none⟩ (.int .i64 8)).setCell ⟨Pp, 1, none⟩ (.int .i64 9)).setCell ⟨Pp, 2, none⟩ (.slice (some ⟨gp, 0, none⟩) N N)).setCell ⟨Pr, 0, none⟩ (.int .i64 8)).setCell ⟨Pr, 1, none⟩ (.int .i64 9)).setCell ⟨Pr, 2, none⟩ (.slice D1 9 d1)) := (bset (bset (bset (bset (bset (bset (bset (bset (bset (bset (bset (bset (bset (bset (bset (bset hbw hqPi _) hqPi _) hqPi _) hqPi _) hqPm _) hqPm _) hqPm _) hqPm _) hqPm _) hqPm _) hqPp _) hqPp _) hqPp _) hqPr _) hqPr _) hqPr _)
  have hex : Blk ((((((((((((((((w3.setCell ⟨Pi, 0, none⟩ (.int .i64 W)).setCell ⟨Pi, 1, none⟩ (.int .i64 H)).setCell ⟨Pi, 2, none⟩ (.int .i64 B)).setCell ⟨Pi, 3, none⟩ (.string s)).setCell ⟨Pm, 0, none⟩ (.int .i64 a)).setCell ⟨Pm, 1, none⟩ (.int .i64 b)).setCell ⟨Pm, 2, none⟩ (.int .i64 c2)).setCell ⟨Pm, 3, none⟩ (.int .i64 d)).setCell ⟨Pm, 4, none⟩ (.int .i64 e)).setCell ⟨Pm, 5, none⟩ (.int .i64 f)).setCell ⟨Pp, 0, none⟩ (.int .i64 8)).setCell ⟨Pp, 1, none⟩ (.int .i64 9)).setCell ⟨Pp, 2, none⟩ (.slice (some ⟨gp, 0, none⟩) N N)).setCell ⟨Pr, 0, none⟩ (.int .i64 8)).setCell ⟨Pr, 1, none⟩ (.int .i64 9)).setCell ⟨Pr, 2, none⟩ (.slice D1 9 d1)) Pi 23 #[.int .i64 W, .int .i64 H, .int .i64 B, .string s] ∧ Blk ((((((((((((((((w3.setCell ⟨Pi, 0, none⟩ (.int .i64 W)).setCell ⟨Pi, 1, none⟩ (.int .i64 H)).setCell ⟨Pi, 2, none⟩ (.int .i64 B)).setCell ⟨Pi, 3, none⟩ (.string s)).setCell ⟨Pm, 0, none⟩ (.int .i64 a)).setCell ⟨Pm, 1, none⟩ (.int .i64 b)).setCell ⟨Pm, 2, none⟩ (.int .i64 c2)).setCell ⟨Pm, 3, none⟩ (.int .i64 d)).setCell ⟨Pm, 4, none⟩ (.int .i64 e)).setCell ⟨Pm, 5, none⟩ (.int .i64 f)).setCell ⟨Pp, 0, none⟩ (.int .i64 8)).setCell ⟨Pp, 1, none⟩ (.int .i64 9)).setCell ⟨Pp, 2, none⟩ (.slice (some ⟨gp, 0, none⟩) N N)).setCell ⟨Pr, 0, none⟩ (.int .i64 8)).setCell ⟨Pr, 1, none⟩ (.int .i64 9)).setCell ⟨Pr, 2, none⟩ (.slice D1 9 d1)) Pm 25 #[.int .i64 a, .int .i64 b, .int .i64 c2, .int .i64 d, .int .i64 e, .int .i64 f] ∧ Blk ((((((((((((((((w3.setCell ⟨Pi, 0, none⟩ (.int .i64 W)).setCell ⟨Pi, 1, none⟩ (.int .i64 H)).setCell ⟨Pi, 2, none⟩ (.int .i64 B)).setCell ⟨Pi, 3, none⟩ (.string s)).setCell ⟨Pm, 0, none⟩ (.int .i64 a)).setCell ⟨Pm, 1, none⟩ (.int .i64 b)).setCell ⟨Pm, 2, none⟩ (.int .i64 c2)).setCell ⟨Pm, 3, none⟩ (.int .i64 d)).setCell ⟨Pm, 4, none⟩ (.int .i64 e)).setCell ⟨Pm, 5, none⟩ (.int .i64 f)).setCell ⟨Pp, 0, none⟩ (.int .i64 8)).setCell ⟨Pp, 1, none⟩ (.int .i64 9)).setCell ⟨Pp, 2, none⟩ (.slice (some ⟨gp, 0, none⟩) N N)).setCell ⟨Pr, 0, none⟩ (.int .i64 8)).setCell ⟨Pr, 1, none⟩ (.int .i64 9)).setCell ⟨Pr, 2, none⟩ (.slice D1 9 d1)) Pp 46 #[.int .i64 8, .int .i64 9, .slice (some ⟨gp, 0, none⟩) N N] ∧ Blk ((((((((((((((((w3.setCell ⟨Pi, 0, none⟩ (.int .i64 W)).setCell ⟨Pi, 1, none⟩ (.int .i64 H)).setCell ⟨Pi, 2, none⟩ (.int .i64 B)).setCell ⟨Pi, 3, none⟩ (.string s)).setCell ⟨Pm, 0, none⟩ (.int .i64 a)).setCell ⟨Pm, 1, none⟩ (.int .i64 b)).setCell ⟨Pm, 2, none⟩ (.int .i64 c2)).setCell ⟨Pm, 3, none⟩ (.int .i64 d)).setCell ⟨Pm, 4, none⟩ (.int .i64 e)).setCell ⟨Pm, 5, none⟩ (.int .i64 f)).setCell ⟨Pp, 0, none⟩ (.int .i64 8)).setCell ⟨Pp, 1, none⟩ (.int .i64 9)).setCell ⟨Pp, 2, none⟩ (.slice (some ⟨gp, 0, none⟩) N N)).setCell ⟨Pr, 0, none⟩ (.int .i64 8)).setCell ⟨Pr, 1, none⟩ (.int .i64 9)).setCell ⟨Pr, 2, none⟩ (.slice D1 9 d1)) Pr 51 #[.int .i64 8, .int .i64 9, .slice D1 9 d1] ∧ Below w.heap.size w ((((((((((((((((w3.setCell ⟨Pi, 0, none⟩ (.int .i64 W)).setCell ⟨Pi, 1, none⟩ (.int .i64 H)).setCell ⟨Pi, 2, none⟩ (.int .i64 B)).setCell ⟨Pi, 3, none⟩ (.string s)).setCell ⟨Pm, 0, none⟩ (.int .i64 a)).setCell ⟨Pm, 1, none⟩ (.int .i64 b)).setCell ⟨Pm, 2, none⟩ (.int .i64 c2)).setCell ⟨Pm, 3, none⟩ (.int .i64 d)).setCell ⟨Pm, 4, none⟩ (.int .i64 e)).setCell ⟨Pm, 5, none⟩ (.int .i64 f)).setCell ⟨Pp, 0, none⟩ (.int .i64 8)).setCell ⟨Pp, 1, none⟩ (.int .i64 9)).setCell ⟨Pp, 2, none⟩ (.slice (some ⟨gp, 0, none⟩) N N)).setCell ⟨Pr, 0, none⟩ (.int .i64 8)).setCell ⟨Pr, 1, none⟩ (.int .i64 9)).setCell ⟨Pr, 2, none⟩ (.slice D1 9 d1)) ∧ ((((((((((((((((w3.setCell ⟨Pi, 0, none⟩ (.int .i64 W)).setCell ⟨Pi, 1, none⟩ (.int .i64 H)).setCell ⟨Pi, 2, none⟩ (.int .i64 B)).setCell ⟨Pi, 3, none⟩ (.string s)).setCell ⟨Pm, 0, none⟩ (.int .i64 a)).setCell ⟨Pm, 1, none⟩ (.int .i64 b)).setCell ⟨Pm, 2, none⟩ (.int .i64 c2)).setCell ⟨Pm, 3, none⟩ (.int .i64 d)).setCell ⟨Pm, 4, none⟩ (.int .i64 e)).setCell ⟨Pm, 5, none⟩ (.int .i64 f)).setCell ⟨Pp, 0, none⟩ (.int .i64 8)).setCell ⟨Pp, 1, none⟩ (.int .i64 9)).setCell ⟨Pp, 2, none⟩ (.slice (some ⟨gp, 0, none⟩) N N)).setCell ⟨Pr, 0, none⟩ (.int .i64 8)).setCell ⟨Pr, 1, none⟩ (.int .i64 9)).setCell ⟨Pr, 2, none⟩ (.slice D1 9 d1)).heap.size = w3.heap.size ∧ (∀ bq, ¬ (bq = Pi ∨ bq = Pm ∨ bq = Pp ∨ bq = Pr) → ∀ o, ((((((((((((((((w3.setCell ⟨Pi, 0, none⟩ (.int .i64 W)).setCell ⟨Pi, 1, none⟩ (.int .i64 H)).setCell ⟨Pi, 2, none⟩ (.int .i64 B)).setCell ⟨Pi, 3, none⟩ (.string s)).setCell ⟨Pm, 0, none⟩ (.int .i64 a)).setCell ⟨Pm, 1, none⟩ (.int .i64 b)).setCell ⟨Pm, 2, none⟩ (.int .i64 c2)).setCell ⟨Pm, 3, none⟩ (.int .i64 d)).setCell ⟨Pm, 4, none⟩ (.int .i64 e)).setCell ⟨Pm, 5, none⟩ (.int .i64 f)).setCell ⟨Pp, 0, none⟩ (.int .i64 8)).setCell ⟨Pp, 1, none⟩ (.int .i64 9)).setCell ⟨Pp, 2, none⟩ (.slice (some ⟨gp, 0, none⟩) N N)).setCell ⟨Pr, 0, none⟩ (.int .i64 8)).setCell ⟨Pr, 1, none⟩ (.int .i64 9)).setCell ⟨Pr, 2, none⟩ (.slice D1 9 d1)).cell? ⟨bq, o, none⟩ = w3.cell? ⟨bq, o, none⟩) := ⟨Ki, Km, Kp, Kr, hbw, hsz, hag⟩
  clear Ki Km Kp Kr hbw hsz hag
  refine HKx.out _ _ ?_
  clear HKx Kx
  revert hex
  generalize hwx : ((((((((((((((((w3.setCell ⟨Pi, 0, none⟩ (.int .i64 W)).setCell ⟨Pi, 1, none⟩ (.int .i64 H)).setCell ⟨Pi, 2, none⟩ (.int .i64 B)).setCell ⟨Pi, 3, none⟩ (.string s)).setCell ⟨Pm, 0, none⟩ (.int .i64 a)).setCell ⟨Pm, 1, none⟩ (.int .i64 b)).setCell ⟨Pm, 2, none⟩ (.int .i64 c2)).setCell ⟨Pm, 3, none⟩ (.int .i64 d)).setCell ⟨Pm, 4, none⟩ (.int .i64 e)).setCell ⟨Pm, 5, none⟩ (.int .i64 f)).setCell ⟨Pp, 0, none⟩ (.int .i64 8)).setCell ⟨Pp, 1, none⟩ (.int .i64 9)).setCell ⟨Pp, 2, none⟩ (.slice (some ⟨gp, 0, none⟩) N N)).setCell ⟨Pr, 0, none⟩ (.int .i64 8)).setCell ⟨Pr, 1, none⟩ (.int .i64 9)).setCell ⟨Pr, 2, none⟩ (.slice D1 9 d1)) = w4
  intro hex
  clear hwx
  obtain ⟨Ki, Km, Kp, Kr, hbw, hsz, hag⟩ := hex
  have hP := Pg.agree HhP.out HNP.out (fun b => b = Pi ∨ b = Pm ∨ b = Pp ∨ b = Pr) HZR.out hsz hag
  have hR := Rows.agree HhR.out (by decide) (fun b => b = Pi ∨ b = Pm ∨ b = Pp ∨ b = Pr) HZR.out hsz hag
  clear hsz hag HhP HhR HZR
  clear cKi0 fKi0 cKi1 fKi1 cKi2 fKi2 cKi3 fKi3 cKm0 fKm0 cKm1 fKm1 cKm2 fKm2 cKm3 fKm3 cKm4 fKm4 cKm5 fKm5 cKp0 fKp0 cKp1 fKp1 cKp2 fKp2 cKr0 fKr0 cKr1 fKr1 cKr2 fKr2 hs0 hi0 hi1 hm0 hm1 hp0 hp1 hr0 hr1
  have HhP := Lib.hid hP
  clear hP
  have HhR := Lib.hid hR
  clear hR
  have lKi := Ki.lt
  have cKi0 := Ki.cell 0
  have cKi1 := Ki.cell 1
  have cKi2 := Ki.cell 2
  have cKi3 := Ki.cell 3
  have lKm := Km.lt
  have cKm0 := Km.cell 0
  have cKm1 := Km.cell 1
  have cKm2 := Km.cell 2
  have cKm3 := Km.cell 3
  have cKm4 := Km.cell 4
  have cKm5 := Km.cell 5
  have lKp := Kp.lt
  have cKp0 := Kp.cell 0
  have cKp1 := Kp.cell 1
  have cKp2 := Kp.cell 2
  have lKr := Kr.lt
  have cKr0 := Kr.cell 0
  have cKr1 := Kr.cell 1
  have cKr2 := Kr.cell 2
  simp only [List.getElem?_toArray, List.getElem?_cons_succ, List.getElem?_cons_zero] at cKi0 cKi1 cKi2 cKi3 cKm0 cKm1 cKm2 cKm3 cKm4 cKm5 cKp0 cKp1 cKp2 cKr0 cKr1 cKr2
  clear HI1 HI3 HI4
  go_wp2_with fail
  have hst0 : Below w4.heap.size w4 w4 := by (repeat' (first | exact Below.refl _ _ | exact Below.refl _ _ | refine balloc ?_ _ | refine Below.drew ?_ | refine below_drewN ?_ _ | refine bset ?_ (by first | omega | (simp <;> omega)) _))
  refine (HNT.out _ _ _ _ (HhR.out.below hst0)).mono ?_
  rintro e_ w5 ⟨gn, hgn, rfl, hNt, hb⟩
  clear hgn
  have hst : Below w4.heap.size w4 w5 := btrans hst0 hb
  replace Ki := Ki.below hb Ki.lt
  replace Km := Km.below hb Km.lt
  replace Kp := Kp.below hb Kp.lt
  replace Kr := Kr.below hb Kr.lt
  replace hbw : Below w.heap.size w w5 := btrans hbw hst
  replace HhP := Lib.hid (HhP.out.below hst)
  replace HhR := Lib.hid (HhR.out.below hst)
  clear hst hst0 hb lKi cKi0 cKi1 cKi2 cKi3 lKm cKm0 cKm1 cKm2 cKm3 cKm4 cKm5 lKp cKp0 cKp1 cKp2 lKr cKr0 cKr1 cKr2
  have HhNt := Lib.hid hNt
  clear hNt
  have lKi := Ki.lt
  have cKi0 := Ki.cell 0
  have cKi1 := Ki.cell 1
  have cKi2 := Ki.cell 2
  have cKi3 := Ki.cell 3
  have lKm := Km.lt
  have cKm0 := Km.cell 0
  have cKm1 := Km.cell 1
  have cKm2 := Km.cell 2
  have cKm3 := Km.cell 3
  have cKm4 := Km.cell 4
  have cKm5 := Km.cell 5
  have lKp := Kp.lt
  have cKp0 := Kp.cell 0
  have cKp1 := Kp.cell 1
  have cKp2 := Kp.cell 2
  have lKr := Kr.lt
  have cKr0 := Kr.cell 0
  have cKr1 := Kr.cell 1
  have cKr2 := Kr.cell 2
  simp only [List.getElem?_toArray, List.getElem?_cons_succ, List.getElem?_cons_zero] at cKi0 cKi1 cKi2 cKi3 cKm0 cKm1 cKm2 cKm3 cKm4 cKm5 cKp0 cKp1 cKp2 cKr0 cKr1 cKr2
  go_wp2_with fail
  have hst0 : Below w5.heap.size w5 (w5.alloc (.cells #[.int .i64 8, .int .i64 9, .slice (some ⟨gn, 0, none⟩) 9 9] 51)) := by (repeat' (first | exact Below.refl _ _ | exact Below.refl _ _ | refine balloc ?_ _ | refine Below.drew ?_ | refine below_drewN ?_ _ | refine bset ?_ (by first | omega | (simp <;> omega)) _))
  refine (HAL.out _).mono ?_
  rintro e_ w6 ⟨gA, hgA, rfl, hAl, hb⟩
  clear hgA
  have hst : Below w5.heap.size w5 w6 := btrans hst0 hb
  replace Ki := (Ki.alloc (.cells #[.int .i64 8, .int .i64 9, .slice (some ⟨gn, 0, none⟩) 9 9] 51))
  replace Km := (Km.alloc (.cells #[.int .i64 8, .int .i64 9, .slice (some ⟨gn, 0, none⟩) 9 9] 51))
  replace Kp := (Kp.alloc (.cells #[.int .i64 8, .int .i64 9, .slice (some ⟨gn, 0, none⟩) 9 9] 51))
  replace Kr := (Kr.alloc (.cells #[.int .i64 8, .int .i64 9, .slice (some ⟨gn, 0, none⟩) 9 9] 51))
  have Kn := (Blk.new w5 51 #[.int .i64 8, .int .i64 9, .slice (some ⟨gn, 0, none⟩) 9 9])
  replace Ki := Ki.below hb Ki.lt
  replace Km := Km.below hb Km.lt
  replace Kp := Kp.below hb Kp.lt
  replace Kr := Kr.below hb Kr.lt
  replace Kn := Kn.below hb Kn.lt
  replace hbw : Below w.heap.size w w6 := btrans hbw hst
  replace HhP := Lib.hid (HhP.out.below hst)
  replace HhR := Lib.hid (HhR.out.below hst)
  replace HhNt := Lib.hid (HhNt.out.below hst)
  clear hst hst0 hb lKi cKi0 cKi1 cKi2 cKi3 lKm cKm0 cKm1 cKm2 cKm3 cKm4 cKm5 lKp cKp0 cKp1 cKp2 lKr cKr0 cKr1 cKr2
  have HhAl := Lib.hid hAl
  clear hAl
  have lKi := Ki.lt
  have cKi0 := Ki.cell 0
  have cKi1 := Ki.cell 1
  have cKi2 := Ki.cell 2
  have cKi3 := Ki.cell 3
  have lKm := Km.lt
  have cKm0 := Km.cell 0
  have cKm1 := Km.cell 1
  have cKm2 := Km.cell 2
  have cKm3 := Km.cell 3
  have cKm4 := Km.cell 4
  have cKm5 := Km.cell 5
  have lKp := Kp.lt
  have cKp0 := Kp.cell 0
  have cKp1 := Kp.cell 1
  have cKp2 := Kp.cell 2
  have lKr := Kr.lt
  have cKr0 := Kr.cell 0
  have cKr1 := Kr.cell 1
  have cKr2 := Kr.cell 2
  have lKn := Kn.lt
  have cKn0 := Kn.cell 0
  have cKn1 := Kn.cell 1
  have cKn2 := Kn.cell 2
  simp only [List.getElem?_toArray, List.getElem?_cons_succ, List.getElem?_cons_zero] at cKi0 cKi1 cKi2 cKi3 cKm0 cKm1 cKm2 cKm3 cKm4 cKm5 cKp0 cKp1 cKp2 cKr0 cKr1 cKr2 cKn0 cKn1 cKn2
  go_wp2_with fail
  have hst0 : Below w6.heap.size w6 (w6.alloc (.cells #[.int .i64 8, .int .i64 9, .slice (some ⟨gA, 0, none⟩) 9 9] 51)) := by (repeat' (first | exact Below.refl _ _ | exact Below.refl _ _ | refine balloc ?_ _ | refine Below.drew ?_ | refine below_drewN ?_ _ | refine bset ?_ (by first | omega | (simp <;> omega)) _))
  refine (HPT.out _ _ _ _ _ _ _ (HhP.out.below hst0) (HhR.out.below hst0)).mono ?_
  rintro e_ w7 ⟨gx, fx, hgx, rfl, hX, hb⟩
  clear hgx
  have hst : Below w6.heap.size w6 w7 := btrans hst0 hb
  replace Ki := (Ki.alloc (.cells #[.int .i64 8, .int .i64 9, .slice (some ⟨gA, 0, none⟩) 9 9] 51))
  replace Km := (Km.alloc (.cells #[.int .i64 8, .int .i64 9, .slice (some ⟨gA, 0, none⟩) 9 9] 51))
  replace Kp := (Kp.alloc (.cells #[.int .i64 8, .int .i64 9, .slice (some ⟨gA, 0, none⟩) 9 9] 51))
  replace Kr := (Kr.alloc (.cells #[.int .i64 8, .int .i64 9, .slice (some ⟨gA, 0, none⟩) 9 9] 51))
  replace Kn := (Kn.alloc (.cells #[.int .i64 8, .int .i64 9, .slice (some ⟨gA, 0, none⟩) 9 9] 51))
  have KA := (Blk.new w6 51 #[.int .i64 8, .int .i64 9, .slice (some ⟨gA, 0, none⟩) 9 9])
  replace Ki := Ki.below hb Ki.lt
  replace Km := Km.below hb Km.lt
  replace Kp := Kp.below hb Kp.lt
  replace Kr := Kr.below hb Kr.lt
  replace Kn := Kn.below hb Kn.lt
  replace KA := KA.below hb KA.lt
  replace hbw : Below w.heap.size w w7 := btrans hbw hst
  replace HhP := Lib.hid (HhP.out.below hst)
  replace HhR := Lib.hid (HhR.out.below hst)
  replace HhNt := Lib.hid (HhNt.out.below hst)
  replace HhAl := Lib.hid (HhAl.out.below hst)
  clear hst hst0 hb lKi cKi0 cKi1 cKi2 cKi3 lKm cKm0 cKm1 cKm2 cKm3 cKm4 cKm5 lKp cKp0 cKp1 cKp2 lKr cKr0 cKr1 cKr2 lKn cKn0 cKn1 cKn2
  have HhX := Lib.hid hX
  clear hX
  have lKi := Ki.lt
  have cKi0 := Ki.cell 0
  have cKi1 := Ki.cell 1
  have cKi2 := Ki.cell 2
  have cKi3 := Ki.cell 3
  have lKm := Km.lt
  have cKm0 := Km.cell 0
  have cKm1 := Km.cell 1
  have cKm2 := Km.cell 2
  have cKm3 := Km.cell 3
  have cKm4 := Km.cell 4
  have cKm5 := Km.cell 5
  have lKp := Kp.lt
  have cKp0 := Kp.cell 0
  have cKp1 := Kp.cell 1
  have cKp2 := Kp.cell 2
  have lKr := Kr.lt
  have cKr0 := Kr.cell 0
  have cKr1 := Kr.cell 1
  have cKr2 := Kr.cell 2
  have lKn := Kn.lt
  have cKn0 := Kn.cell 0
  have cKn1 := Kn.cell 1
  have cKn2 := Kn.cell 2
  have lKA := KA.lt
  have cKA0 := KA.cell 0
  have cKA1 := KA.cell 1
  have cKA2 := KA.cell 2
  simp only [List.getElem?_toArray, List.getElem?_cons_succ, List.getElem?_cons_zero] at cKi0 cKi1 cKi2 cKi3 cKm0 cKm1 cKm2 cKm3 cKm4 cKm5 cKp0 cKp1 cKp2 cKr0 cKr1 cKr2 cKn0 cKn1 cKn2 cKA0 cKA1 cKA2
  go_wp2_with fail
  have hst0 : Below w7.heap.size w7 (w7.alloc (.cells #[.int .i64 8, .int .i64 9, .slice (some ⟨gx, 0, none⟩) N fx] 46)) := by (repeat' (first | exact Below.refl _ _ | exact Below.refl _ _ | refine balloc ?_ _ | refine Below.drew ?_ | refine below_drewN ?_ _ | refine bset ?_ (by first | omega | (simp <;> omega)) _))
  refine (HPT.out _ _ _ _ _ _ _ (HhX.out.below hst0) (HhNt.out.below hst0)).mono ?_
  rintro e_ w8 ⟨gy, fy, hgy, rfl, hY, hb⟩
  clear hgy
  have hst : Below w7.heap.size w7 w8 := btrans hst0 hb
  replace Ki := (Ki.alloc (.cells #[.int .i64 8, .int .i64 9, .slice (some ⟨gx, 0, none⟩) N fx] 46))
  replace Km := (Km.alloc (.cells #[.int .i64 8, .int .i64 9, .slice (some ⟨gx, 0, none⟩) N fx] 46))
  replace Kp := (Kp.alloc (.cells #[.int .i64 8, .int .i64 9, .slice (some ⟨gx, 0, none⟩) N fx] 46))
  replace Kr := (Kr.alloc (.cells #[.int .i64 8, .int .i64 9, .slice (some ⟨gx, 0, none⟩) N fx] 46))
  replace Kn := (Kn.alloc (.cells #[.int .i64 8, .int .i64 9, .slice (some ⟨gx, 0, none⟩) N fx] 46))
  replace KA := (KA.alloc (.cells #[.int .i64 8, .int .i64 9, .slice (some ⟨gx, 0, none⟩) N fx] 46))
  have Kx := (Blk.new w7 46 #[.int .i64 8, .int .i64 9, .slice (some ⟨gx, 0, none⟩) N fx])
  replace Ki := Ki.below hb Ki.lt
  replace Km := Km.below hb Km.lt
  replace Kp := Kp.below hb Kp.lt
  replace Kr := Kr.below hb Kr.lt
  replace Kn := Kn.below hb Kn.lt
  replace KA := KA.below hb KA.lt
  replace Kx := Kx.below hb Kx.lt
  replace hbw : Below w.heap.size w w8 := btrans hbw hst
  replace HhP := Lib.hid (HhP.out.below hst)
  replace HhR := Lib.hid (HhR.out.below hst)
  replace HhNt := Lib.hid (HhNt.out.below hst)
  replace HhAl := Lib.hid (HhAl.out.below hst)
  replace HhX := Lib.hid (HhX.out.below hst)
  clear hst hst0 hb lKi cKi0 cKi1 cKi2 cKi3 lKm cKm0 cKm1 cKm2 cKm3 cKm4 cKm5 lKp cKp0 cKp1 cKp2 lKr cKr0 cKr1 cKr2 lKn cKn0 cKn1 cKn2 lKA cKA0 cKA1 cKA2
  have HhY := Lib.hid hY
  clear hY
  have lKi := Ki.lt
  have cKi0 := Ki.cell 0
  have cKi1 := Ki.cell 1
  have cKi2 := Ki.cell 2
  have cKi3 := Ki.cell 3
  have lKm := Km.lt
  have cKm0 := Km.cell 0
  have cKm1 := Km.cell 1
  have cKm2 := Km.cell 2
  have cKm3 := Km.cell 3
  have cKm4 := Km.cell 4
  have cKm5 := Km.cell 5
  have lKp := Kp.lt
  have cKp0 := Kp.cell 0
  have cKp1 := Kp.cell 1
  have cKp2 := Kp.cell 2
  have lKr := Kr.lt
  have cKr0 := Kr.cell 0
  have cKr1 := Kr.cell 1
  have cKr2 := Kr.cell 2
  have lKn := Kn.lt
  have cKn0 := Kn.cell 0
  have cKn1 := Kn.cell 1
  have cKn2 := Kn.cell 2
  have lKA := KA.lt
  have cKA0 := KA.cell 0
  have cKA1 := KA.cell 1
  have cKA2 := KA.cell 2
  have lKx := Kx.lt
  have cKx0 := Kx.cell 0
  have cKx1 := Kx.cell 1
  have cKx2 := Kx.cell 2
  simp only [List.getElem?_toArray, List.getElem?_cons_succ, List.getElem?_cons_zero] at cKi0 cKi1 cKi2 cKi3 cKm0 cKm1 cKm2 cKm3 cKm4 cKm5 cKp0 cKp1 cKp2 cKr0 cKr1 cKr2 cKn0 cKn1 cKn2 cKA0 cKA1 cKA2 cKx0 cKx1 cKx2
  go_wp2_with fail
  have hst0 : Below w8.heap.size w8 (w8.alloc (.cells #[.int .i64 8, .int .i64 9, .slice (some ⟨gy, 0, none⟩) N fy] 46)) := by (repeat' (first | exact Below.refl _ _ | exact Below.refl _ _ | refine balloc ?_ _ | refine Below.drew ?_ | refine below_drewN ?_ _ | refine bset ?_ (by first | omega | (simp <;> omega)) _))
  refine (HPT.out _ _ _ _ _ _ _ (HhP.out.below hst0) (HhAl.out.below hst0)).mono ?_
  rintro e_ w9 ⟨gz, fz, hgz, rfl, hZz, hb⟩
  clear hgz
  have hst : Below w8.heap.size w8 w9 := btrans hst0 hb
  replace Ki := (Ki.alloc (.cells #[.int .i64 8, .int .i64 9, .slice (some ⟨gy, 0, none⟩) N fy] 46))
  replace Km := (Km.alloc (.cells #[.int .i64 8, .int .i64 9, .slice (some ⟨gy, 0, none⟩) N fy] 46))
  replace Kp := (Kp.alloc (.cells #[.int .i64 8, .int .i64 9, .slice (some ⟨gy, 0, none⟩) N fy] 46))
  replace Kr := (Kr.alloc (.cells #[.int .i64 8, .int .i64 9, .slice (some ⟨gy, 0, none⟩) N fy] 46))
  replace Kn := (Kn.alloc (.cells #[.int .i64 8, .int .i64 9, .slice (some ⟨gy, 0, none⟩) N fy] 46))
  replace KA := (KA.alloc (.cells #[.int .i64 8, .int .i64 9, .slice (some ⟨gy, 0, none⟩) N fy] 46))
  replace Kx := (Kx.alloc (.cells #[.int .i64 8, .int .i64 9, .slice (some ⟨gy, 0, none⟩) N fy] 46))
  have Ky := (Blk.new w8 46 #[.int .i64 8, .int .i64 9, .slice (some ⟨gy, 0, none⟩) N fy])
  replace Ki := Ki.below hb Ki.lt
  replace Km := Km.below hb Km.lt
  replace Kp := Kp.below hb Kp.lt
  replace Kr := Kr.below hb Kr.lt
  replace Kn := Kn.below hb Kn.lt
  replace KA := KA.below hb KA.lt
  replace Kx := Kx.below hb Kx.lt
  replace Ky := Ky.below hb Ky.lt
  replace hbw : Below w.heap.size w w9 := btrans hbw hst
  replace HhP := Lib.hid (HhP.out.below hst)
  replace HhR := Lib.hid (HhR.out.below hst)
  replace HhNt := Lib.hid (HhNt.out.below hst)
  replace HhAl := Lib.hid (HhAl.out.below hst)
  replace HhX := Lib.hid (HhX.out.below hst)
  replace HhY := Lib.hid (HhY.out.below hst)
  clear hst hst0 hb lKi cKi0 cKi1 cKi2 cKi3 lKm cKm0 cKm1 cKm2 cKm3 cKm4 cKm5 lKp cKp0 cKp1 cKp2 lKr cKr0 cKr1 cKr2 lKn cKn0 cKn1 cKn2 lKA cKA0 cKA1 cKA2 lKx cKx0 cKx1 cKx2 Kn
  have HhZz := Lib.hid hZz
  clear hZz
  have lKi := Ki.lt
  have cKi0 := Ki.cell 0
  have cKi1 := Ki.cell 1
  have cKi2 := Ki.cell 2
  have cKi3 := Ki.cell 3
  have lKm := Km.lt
  have cKm0 := Km.cell 0
  have cKm1 := Km.cell 1
  have cKm2 := Km.cell 2
  have cKm3 := Km.cell 3
  have cKm4 := Km.cell 4
  have cKm5 := Km.cell 5
  have lKp := Kp.lt
  have cKp0 := Kp.cell 0
  have cKp1 := Kp.cell 1
  have cKp2 := Kp.cell 2
  have lKr := Kr.lt
  have cKr0 := Kr.cell 0
  have cKr1 := Kr.cell 1
  have cKr2 := Kr.cell 2
  have lKA := KA.lt
  have cKA0 := KA.cell 0
  have cKA1 := KA.cell 1
  have cKA2 := KA.cell 2
  have lKx := Kx.lt
  have cKx0 := Kx.cell 0
  have cKx1 := Kx.cell 1
  have cKx2 := Kx.cell 2
  have lKy := Ky.lt
  have cKy0 := Ky.cell 0
  have cKy1 := Ky.cell 1
  have cKy2 := Ky.cell 2
  simp only [List.getElem?_toArray, List.getElem?_cons_succ, List.getElem?_cons_zero] at cKi0 cKi1 cKi2 cKi3 cKm0 cKm1 cKm2 cKm3 cKm4 cKm5 cKp0 cKp1 cKp2 cKr0 cKr1 cKr2 cKA0 cKA1 cKA2 cKx0 cKx1 cKx2 cKy0 cKy1 cKy2
  go_wp2_with fail
  have hst0 : Below w9.heap.size w9 (w9.alloc (.cells #[.int .i64 8, .int .i64 9, .slice (some ⟨gz, 0, none⟩) N fz] 46)) := by (repeat' (first | exact Below.refl _ _ | exact Below.refl _ _ | refine balloc ?_ _ | refine Below.drew ?_ | refine below_drewN ?_ _ | refine bset ?_ (by first | omega | (simp <;> omega)) _))
  refine (HPT.out _ _ _ _ _ _ _ (HhZz.out.below hst0) (HhAl.out.below hst0)).mono ?_
  rintro e_ w10 ⟨gv, fv, hgv, rfl, hV, hb⟩
  clear hgv
  have hst : Below w9.heap.size w9 w10 := btrans hst0 hb
  replace Ki := (Ki.alloc (.cells #[.int .i64 8, .int .i64 9, .slice (some ⟨gz, 0, none⟩) N fz] 46))
  replace Km := (Km.alloc (.cells #[.int .i64 8, .int .i64 9, .slice (some ⟨gz, 0, none⟩) N fz] 46))
  replace Kp := (Kp.alloc (.cells #[.int .i64 8, .int .i64 9, .slice (some ⟨gz, 0, none⟩) N fz] 46))
  replace Kr := (Kr.alloc (.cells #[.int .i64 8, .int .i64 9, .slice (some ⟨gz, 0, none⟩) N fz] 46))
  replace KA := (KA.alloc (.cells #[.int .i64 8, .int .i64 9, .slice (some ⟨gz, 0, none⟩) N fz] 46))
  replace Kx := (Kx.alloc (.cells #[.int .i64 8, .int .i64 9, .slice (some ⟨gz, 0, none⟩) N fz] 46))
  replace Ky := (Ky.alloc (.cells #[.int .i64 8, .int .i64 9, .slice (some ⟨gz, 0, none⟩) N fz] 46))
  have Kz := (Blk.new w9 46 #[.int .i64 8, .int .i64 9, .slice (some ⟨gz, 0, none⟩) N fz])
  replace Ki := Ki.below hb Ki.lt
  replace Km := Km.below hb Km.lt
  replace Kp := Kp.below hb Kp.lt
  replace Kr := Kr.below hb Kr.lt
  replace KA := KA.below hb KA.lt
  replace Kx := Kx.below hb Kx.lt
  replace Ky := Ky.below hb Ky.lt
  replace Kz := Kz.below hb Kz.lt
  replace hbw : Below w.heap.size w w10 := btrans hbw hst
  replace HhP := Lib.hid (HhP.out.below hst)
  replace HhR := Lib.hid (HhR.out.below hst)
  replace HhNt := Lib.hid (HhNt.out.below hst)
  replace HhAl := Lib.hid (HhAl.out.below hst)
  replace HhX := Lib.hid (HhX.out.below hst)
  replace HhY := Lib.hid (HhY.out.below hst)
  replace HhZz := Lib.hid (HhZz.out.below hst)
  clear hst hst0 hb lKi cKi0 cKi1 cKi2 cKi3 lKm cKm0 cKm1 cKm2 cKm3 cKm4 cKm5 lKp cKp0 cKp1 cKp2 lKr cKr0 cKr1 cKr2 lKA cKA0 cKA1 cKA2 lKx cKx0 cKx1 cKx2 lKy cKy0 cKy1 cKy2
  have HhV := Lib.hid hV
  clear hV
  have lKi := Ki.lt
  have cKi0 := Ki.cell 0
  have cKi1 := Ki.cell 1
  have cKi2 := Ki.cell 2
  have cKi3 := Ki.cell 3
  have lKm := Km.lt
  have cKm0 := Km.cell 0
  have cKm1 := Km.cell 1
  have cKm2 := Km.cell 2
  have cKm3 := Km.cell 3
  have cKm4 := Km.cell 4
  have cKm5 := Km.cell 5
  have lKp := Kp.lt
  have cKp0 := Kp.cell 0
  have cKp1 := Kp.cell 1
  have cKp2 := Kp.cell 2
  have lKr := Kr.lt
  have cKr0 := Kr.cell 0
  have cKr1 := Kr.cell 1
  have cKr2 := Kr.cell 2
  have lKA := KA.lt
  have cKA0 := KA.cell 0
  have cKA1 := KA.cell 1
  have cKA2 := KA.cell 2
  have lKx := Kx.lt
  have cKx0 := Kx.cell 0
  have cKx1 := Kx.cell 1
  have cKx2 := Kx.cell 2
  have lKy := Ky.lt
  have cKy0 := Ky.cell 0
  have cKy1 := Ky.cell 1
  have cKy2 := Ky.cell 2
  have lKz := Kz.lt
  have cKz0 := Kz.cell 0
  have cKz1 := Kz.cell 1
  have cKz2 := Kz.cell 2
  simp only [List.getElem?_toArray, List.getElem?_cons_succ, List.getElem?_cons_zero] at cKi0 cKi1 cKi2 cKi3 cKm0 cKm1 cKm2 cKm3 cKm4 cKm5 cKp0 cKp1 cKp2 cKr0 cKr1 cKr2 cKA0 cKA1 cKA2 cKx0 cKx1 cKx2 cKy0 cKy1 cKy2 cKz0 cKz1 cKz2
  go_wp2_with fail
  have hst0 : Below w10.heap.size w10 (w10.alloc (.cells #[.int .i64 8, .int .i64 9, .slice (some ⟨gv, 0, none⟩) N fv] 46)) := by (repeat' (first | exact Below.refl _ _ | exact Below.refl _ _ | refine balloc ?_ _ | refine Below.drew ?_ | refine below_drewN ?_ _ | refine bset ?_ (by first | omega | (simp <;> omega)) _))
  refine (HUN.out _ _ _ _ _ _ _ (HhX.out.below hst0) (HhP.out.below hst0)).mono ?_
  rintro e_ w11 ⟨gu, hgu, rfl, hU, hb⟩
  clear hgu
  have hst : Below w10.heap.size w10 w11 := btrans hst0 hb
  replace Ki := (Ki.alloc (.cells #[.int .i64 8, .int .i64 9, .slice (some ⟨gv, 0, none⟩) N fv] 46))
  replace Km := (Km.alloc (.cells #[.int .i64 8, .int .i64 9, .slice (some ⟨gv, 0, none⟩) N fv] 46))
  replace Kp := (Kp.alloc (.cells #[.int .i64 8, .int .i64 9, .slice (some ⟨gv, 0, none⟩) N fv] 46))
  replace Kr := (Kr.alloc (.cells #[.int .i64 8, .int .i64 9, .slice (some ⟨gv, 0, none⟩) N fv] 46))
  replace KA := (KA.alloc (.cells #[.int .i64 8, .int .i64 9, .slice (some ⟨gv, 0, none⟩) N fv] 46))
  replace Kx := (Kx.alloc (.cells #[.int .i64 8, .int .i64 9, .slice (some ⟨gv, 0, none⟩) N fv] 46))
  replace Ky := (Ky.alloc (.cells #[.int .i64 8, .int .i64 9, .slice (some ⟨gv, 0, none⟩) N fv] 46))
  replace Kz := (Kz.alloc (.cells #[.int .i64 8, .int .i64 9, .slice (some ⟨gv, 0, none⟩) N fv] 46))
  have Kw := (Blk.new w10 46 #[.int .i64 8, .int .i64 9, .slice (some ⟨gv, 0, none⟩) N fv])
  replace Ki := Ki.below hb Ki.lt
  replace Km := Km.below hb Km.lt
  replace Kp := Kp.below hb Kp.lt
  replace Kr := Kr.below hb Kr.lt
  replace KA := KA.below hb KA.lt
  replace Kx := Kx.below hb Kx.lt
  replace Ky := Ky.below hb Ky.lt
  replace Kz := Kz.below hb Kz.lt
  replace Kw := Kw.below hb Kw.lt
  replace hbw : Below w.heap.size w w11 := btrans hbw hst
  replace HhP := Lib.hid (HhP.out.below hst)
  replace HhR := Lib.hid (HhR.out.below hst)
  replace HhNt := Lib.hid (HhNt.out.below hst)
  replace HhAl := Lib.hid (HhAl.out.below hst)
  replace HhX := Lib.hid (HhX.out.below hst)
  replace HhY := Lib.hid (HhY.out.below hst)
  replace HhZz := Lib.hid (HhZz.out.below hst)
  replace HhV := Lib.hid (HhV.out.below hst)
  clear hst hst0 hb lKi cKi0 cKi1 cKi2 cKi3 lKm cKm0 cKm1 cKm2 cKm3 cKm4 cKm5 lKp cKp0 cKp1 cKp2 lKr cKr0 cKr1 cKr2 lKA cKA0 cKA1 cKA2 lKx cKx0 cKx1 cKx2 lKy cKy0 cKy1 cKy2 lKz cKz0 cKz1 cKz2 Ki Km KA
  have HhU := Lib.hid hU
  clear hU
  have lKp := Kp.lt
  have cKp0 := Kp.cell 0
  have cKp1 := Kp.cell 1
  have cKp2 := Kp.cell 2
  have lKr := Kr.lt
  have cKr0 := Kr.cell 0
  have cKr1 := Kr.cell 1
  have cKr2 := Kr.cell 2
  have lKx := Kx.lt
  have cKx0 := Kx.cell 0
  have cKx1 := Kx.cell 1
  have cKx2 := Kx.cell 2
  have lKy := Ky.lt
  have cKy0 := Ky.cell 0
  have cKy1 := Ky.cell 1
  have cKy2 := Ky.cell 2
  have lKz := Kz.lt
  have cKz0 := Kz.cell 0
  have cKz1 := Kz.cell 1
  have cKz2 := Kz.cell 2
  have lKw := Kw.lt
  have cKw0 := Kw.cell 0
  have cKw1 := Kw.cell 1
  have cKw2 := Kw.cell 2
  simp only [List.getElem?_toArray, List.getElem?_cons_succ, List.getElem?_cons_zero] at cKp0 cKp1 cKp2 cKr0 cKr1 cKr2 cKx0 cKx1 cKx2 cKy0 cKy1 cKy2 cKz0 cKz1 cKz2 cKw0 cKw1 cKw2
  go_wp2_with fail
  have hst0 : Below w11.heap.size w11 (w11.alloc (.cells #[.int .i64 8, .int .i64 9, .slice (some ⟨gu, 0, none⟩) 9 9] 51)) := by (repeat' (first | exact Below.refl _ _ | exact Below.refl _ _ | refine balloc ?_ _ | refine Below.drew ?_ | refine below_drewN ?_ _ | refine bset ?_ (by first | omega | (simp <;> omega)) _))
  refine (HLE.out _ _ _ _ _ _ _ (HhU.out.below hst0) (HhR.out.below hst0)).mono ?_
  rintro e_ w12 ⟨gl, hgl, rfl, hL, hb⟩
  clear hgl
  have hst : Below w11.heap.size w11 w12 := btrans hst0 hb
  replace Kp := (Kp.alloc (.cells #[.int .i64 8, .int .i64 9, .slice (some ⟨gu, 0, none⟩) 9 9] 51))
  replace Kr := (Kr.alloc (.cells #[.int .i64 8, .int .i64 9, .slice (some ⟨gu, 0, none⟩) 9 9] 51))
  replace Kx := (Kx.alloc (.cells #[.int .i64 8, .int .i64 9, .slice (some ⟨gu, 0, none⟩) 9 9] 51))
  replace Ky := (Ky.alloc (.cells #[.int .i64 8, .int .i64 9, .slice (some ⟨gu, 0, none⟩) 9 9] 51))
  replace Kz := (Kz.alloc (.cells #[.int .i64 8, .int .i64 9, .slice (some ⟨gu, 0, none⟩) 9 9] 51))
  replace Kw := (Kw.alloc (.cells #[.int .i64 8, .int .i64 9, .slice (some ⟨gu, 0, none⟩) 9 9] 51))
  have Ku := (Blk.new w11 51 #[.int .i64 8, .int .i64 9, .slice (some ⟨gu, 0, none⟩) 9 9])
  replace Kp := Kp.below hb Kp.lt
  replace Kr := Kr.below hb Kr.lt
  replace Kx := Kx.below hb Kx.lt
  replace Ky := Ky.below hb Ky.lt
  replace Kz := Kz.below hb Kz.lt
  replace Kw := Kw.below hb Kw.lt
  replace Ku := Ku.below hb Ku.lt
  replace hbw : Below w.heap.size w w12 := btrans hbw hst
  replace HhP := Lib.hid (HhP.out.below hst)
  replace HhR := Lib.hid (HhR.out.below hst)
  replace HhNt := Lib.hid (HhNt.out.below hst)
  replace HhAl := Lib.hid (HhAl.out.below hst)
  replace HhX := Lib.hid (HhX.out.below hst)
  replace HhY := Lib.hid (HhY.out.below hst)
  replace HhZz := Lib.hid (HhZz.out.below hst)
  replace HhV := Lib.hid (HhV.out.below hst)
  replace HhU := Lib.hid (HhU.out.below hst)
  clear hst hst0 hb lKp cKp0 cKp1 cKp2 lKr cKr0 cKr1 cKr2 lKx cKx0 cKx1 cKx2 lKy cKy0 cKy1 cKy2 lKz cKz0 cKz1 cKz2 lKw cKw0 cKw1 cKw2
  have HhL := Lib.hid hL
  clear hL
  have lKp := Kp.lt
  have cKp0 := Kp.cell 0
  have cKp1 := Kp.cell 1
  have cKp2 := Kp.cell 2
  have lKr := Kr.lt
  have cKr0 := Kr.cell 0
  have cKr1 := Kr.cell 1
  have cKr2 := Kr.cell 2
  have lKx := Kx.lt
  have cKx0 := Kx.cell 0
  have cKx1 := Kx.cell 1
  have cKx2 := Kx.cell 2
  have lKy := Ky.lt
  have cKy0 := Ky.cell 0
  have cKy1 := Ky.cell 1
  have cKy2 := Ky.cell 2
  have lKz := Kz.lt
  have cKz0 := Kz.cell 0
  have cKz1 := Kz.cell 1
  have cKz2 := Kz.cell 2
  have lKw := Kw.lt
  have cKw0 := Kw.cell 0
  have cKw1 := Kw.cell 1
  have cKw2 := Kw.cell 2
  have lKu := Ku.lt
  have cKu0 := Ku.cell 0
  have cKu1 := Ku.cell 1
  have cKu2 := Ku.cell 2
  simp only [List.getElem?_toArray, List.getElem?_cons_succ, List.getElem?_cons_zero] at cKp0 cKp1 cKp2 cKr0 cKr1 cKr2 cKx0 cKx1 cKx2 cKy0 cKy1 cKy2 cKz0 cKz1 cKz2 cKw0 cKw1 cKw2 cKu0 cKu1 cKu2
  go_wp2_with fail
  have hst0 : Below w12.heap.size w12 (w12.alloc (.cells #[.int .i64 8, .int .i64 9, .slice (some ⟨gl, 0, none⟩) 9 9] 51)) := by (repeat' (first | exact Below.refl _ _ | exact Below.refl _ _ | refine balloc ?_ _ | refine Below.drew ?_ | refine below_drewN ?_ _ | refine bset ?_ (by first | omega | (simp <;> omega)) _))
  refine (HPS.out _ _ _ _ _ _ _ (HhY.out.below hst0) (HhZz.out.below hst0) (fun t ht => parts_px 8 _ _ _ _ t)).mono ?_
  rintro e_ w13 ⟨rfl, hb⟩
  have hst : Below w12.heap.size w12 w13 := btrans hst0 hb
  replace Kp := (Kp.alloc (.cells #[.int .i64 8, .int .i64 9, .slice (some ⟨gl, 0, none⟩) 9 9] 51))
  replace Kr := (Kr.alloc (.cells #[.int .i64 8, .int .i64 9, .slice (some ⟨gl, 0, none⟩) 9 9] 51))
  replace Kx := (Kx.alloc (.cells #[.int .i64 8, .int .i64 9, .slice (some ⟨gl, 0, none⟩) 9 9] 51))
  replace Ky := (Ky.alloc (.cells #[.int .i64 8, .int .i64 9, .slice (some ⟨gl, 0, none⟩) 9 9] 51))
  replace Kz := (Kz.alloc (.cells #[.int .i64 8, .int .i64 9, .slice (some ⟨gl, 0, none⟩) 9 9] 51))
  replace Kw := (Kw.alloc (.cells #[.int .i64 8, .int .i64 9, .slice (some ⟨gl, 0, none⟩) 9 9] 51))
  replace Ku := (Ku.alloc (.cells #[.int .i64 8, .int .i64 9, .slice (some ⟨gl, 0, none⟩) 9 9] 51))
  have Kl := (Blk.new w12 51 #[.int .i64 8, .int .i64 9, .slice (some ⟨gl, 0, none⟩) 9 9])
  replace Kp := Kp.below hb Kp.lt
  replace Kr := Kr.below hb Kr.lt
  replace Kx := Kx.below hb Kx.lt
  replace Ky := Ky.below hb Ky.lt
  replace Kz := Kz.below hb Kz.lt
  replace Kw := Kw.below hb Kw.lt
  replace Ku := Ku.below hb Ku.lt
  replace Kl := Kl.below hb Kl.lt
  replace hbw : Below w.heap.size w w13 := btrans hbw hst
  replace HhP := Lib.hid (HhP.out.below hst)
  replace HhR := Lib.hid (HhR.out.below hst)
  replace HhNt := Lib.hid (HhNt.out.below hst)
  replace HhAl := Lib.hid (HhAl.out.below hst)
  replace HhX := Lib.hid (HhX.out.below hst)
  replace HhY := Lib.hid (HhY.out.below hst)
  replace HhZz := Lib.hid (HhZz.out.below hst)
  replace HhV := Lib.hid (HhV.out.below hst)
  replace HhU := Lib.hid (HhU.out.below hst)
  replace HhL := Lib.hid (HhL.out.below hst)
  clear hst hst0 hb lKp cKp0 cKp1 cKp2 lKr cKr0 cKr1 cKr2 lKx cKx0 cKx1 cKx2 lKy cKy0 cKy1 cKy2 lKz cKz0 cKz1 cKz2 lKw cKw0 cKw1 cKw2 lKu cKu0 cKu1 cKu2
  have lKp := Kp.lt
  have cKp0 := Kp.cell 0
  have cKp1 := Kp.cell 1
  have cKp2 := Kp.cell 2
  have lKr := Kr.lt
  have cKr0 := Kr.cell 0
  have cKr1 := Kr.cell 1
  have cKr2 := Kr.cell 2
  have lKx := Kx.lt
  have cKx0 := Kx.cell 0
  have cKx1 := Kx.cell 1
  have cKx2 := Kx.cell 2
  have lKy := Ky.lt
  have cKy0 := Ky.cell 0
  have cKy1 := Ky.cell 1
  have cKy2 := Ky.cell 2
  have lKz := Kz.lt
  have cKz0 := Kz.cell 0
  have cKz1 := Kz.cell 1
  have cKz2 := Kz.cell 2
  have lKw := Kw.lt
  have cKw0 := Kw.cell 0
  have cKw1 := Kw.cell 1
  have cKw2 := Kw.cell 2
  have lKu := Ku.lt
  have cKu0 := Ku.cell 0
  have cKu1 := Ku.cell 1
  have cKu2 := Ku.cell 2
  have lKl := Kl.lt
  have cKl0 := Kl.cell 0
  have cKl1 := Kl.cell 1
  have cKl2 := Kl.cell 2
  simp only [List.getElem?_toArray, List.getElem?_cons_succ, List.getElem?_cons_zero] at cKp0 cKp1 cKp2 cKr0 cKr1 cKr2 cKx0 cKx1 cKx2 cKy0 cKy1 cKy2 cKz0 cKz1 cKz2 cKw0 cKw1 cKw2 cKu0 cKu1 cKu2 cKl0 cKl1 cKl2
  go_wp2_with fail
  have hst0 : Below w13.heap.size w13 w13 := by (repeat' (first | exact Below.refl _ _ | exact Below.refl _ _ | refine balloc ?_ _ | refine Below.drew ?_ | refine below_drewN ?_ _ | refine bset ?_ (by first | omega | (simp <;> omega)) _))
  refine (HPS.out _ _ _ _ _ _ _ (HhV.out.below hst0) (HhZz.out.below hst0) (fun t ht => again_px 8 _ _ _ t)).mono ?_
  rintro e_ w14 ⟨rfl, hb⟩
  have hst : Below w13.heap.size w13 w14 := btrans hst0 hb
  replace Kp := Kp.below hb Kp.lt
  replace Kr := Kr.below hb Kr.lt
  replace Kx := Kx.below hb Kx.lt
  replace Ky := Ky.below hb Ky.lt
  replace Kz := Kz.below hb Kz.lt
  replace Kw := Kw.below hb Kw.lt
  replace Ku := Ku.below hb Ku.lt
  replace Kl := Kl.below hb Kl.lt
  replace hbw : Below w.heap.size w w14 := btrans hbw hst
  replace HhP := Lib.hid (HhP.out.below hst)
  replace HhR := Lib.hid (HhR.out.below hst)
  replace HhNt := Lib.hid (HhNt.out.below hst)
  replace HhAl := Lib.hid (HhAl.out.below hst)
  replace HhX := Lib.hid (HhX.out.below hst)
  replace HhY := Lib.hid (HhY.out.below hst)
  replace HhZz := Lib.hid (HhZz.out.below hst)
  replace HhV := Lib.hid (HhV.out.below hst)
  replace HhU := Lib.hid (HhU.out.below hst)
  replace HhL := Lib.hid (HhL.out.below hst)
  clear hst hst0 hb lKp cKp0 cKp1 cKp2 lKr cKr0 cKr1 cKr2 lKx cKx0 cKx1 cKx2 lKy cKy0 cKy1 cKy2 lKz cKz0 cKz1 cKz2 lKw cKw0 cKw1 cKw2 lKu cKu0 cKu1 cKu2 lKl cKl0 cKl1 cKl2
  have lKp := Kp.lt
  have cKp0 := Kp.cell 0
  have cKp1 := Kp.cell 1
  have cKp2 := Kp.cell 2
  have lKr := Kr.lt
  have cKr0 := Kr.cell 0
  have cKr1 := Kr.cell 1
  have cKr2 := Kr.cell 2
  have lKx := Kx.lt
  have cKx0 := Kx.cell 0
  have cKx1 := Kx.cell 1
  have cKx2 := Kx.cell 2
  have lKy := Ky.lt
  have cKy0 := Ky.cell 0
  have cKy1 := Ky.cell 1
  have cKy2 := Ky.cell 2
  have lKz := Kz.lt
  have cKz0 := Kz.cell 0
  have cKz1 := Kz.cell 1
  have cKz2 := Kz.cell 2
  have lKw := Kw.lt
  have cKw0 := Kw.cell 0
  have cKw1 := Kw.cell 1
  have cKw2 := Kw.cell 2
  have lKu := Ku.lt
  have cKu0 := Ku.cell 0
  have cKu1 := Ku.cell 1
  have cKu2 := Ku.cell 2
  have lKl := Kl.lt
  have cKl0 := Kl.cell 0
  have cKl1 := Kl.cell 1
  have cKl2 := Kl.cell 2
  simp only [List.getElem?_toArray, List.getElem?_cons_succ, List.getElem?_cons_zero] at cKp0 cKp1 cKp2 cKr0 cKr1 cKr2 cKx0 cKx1 cKx2 cKy0 cKy1 cKy2 cKz0 cKz1 cKz2 cKw0 cKw1 cKw2 cKu0 cKu1 cKu2 cKl0 cKl1 cKl2
  go_wp2_with fail
  have hst0 : Below w14.heap.size w14 w14 := by (repeat' (first | exact Below.refl _ _ | exact Below.refl _ _ | refine balloc ?_ _ | refine Below.drew ?_ | refine below_drewN ?_ _ | refine bset ?_ (by first | omega | (simp <;> omega)) _))
  refine (HCN.out _ _ _ _ (HhL.out.below hst0) (fun j hj i hi => parts_dif 8 _ _ _ _ j i hi)).mono ?_
  rintro e_ w15 ⟨rfl, hb⟩
  have hst : Below w14.heap.size w14 w15 := btrans hst0 hb
  replace Kp := Kp.below hb Kp.lt
  replace Kr := Kr.below hb Kr.lt
  replace Kx := Kx.below hb Kx.lt
  replace Ky := Ky.below hb Ky.lt
  replace Kz := Kz.below hb Kz.lt
  replace Kw := Kw.below hb Kw.lt
  replace Ku := Ku.below hb Ku.lt
  replace Kl := Kl.below hb Kl.lt
  replace hbw : Below w.heap.size w w15 := btrans hbw hst
  replace HhP := Lib.hid (HhP.out.below hst)
  replace HhR := Lib.hid (HhR.out.below hst)
  replace HhNt := Lib.hid (HhNt.out.below hst)
  replace HhAl := Lib.hid (HhAl.out.below hst)
  replace HhX := Lib.hid (HhX.out.below hst)
  replace HhY := Lib.hid (HhY.out.below hst)
  replace HhZz := Lib.hid (HhZz.out.below hst)
  replace HhV := Lib.hid (HhV.out.below hst)
  replace HhU := Lib.hid (HhU.out.below hst)
  replace HhL := Lib.hid (HhL.out.below hst)
  clear hst hst0 hb lKp cKp0 cKp1 cKp2 lKr cKr0 cKr1 cKr2 lKx cKx0 cKx1 cKx2 lKy cKy0 cKy1 cKy2 lKz cKz0 cKz1 cKz2 lKw cKw0 cKw1 cKw2 lKu cKu0 cKu1 cKu2 lKl cKl0 cKl1 cKl2
  have lKp := Kp.lt
  have cKp0 := Kp.cell 0
  have cKp1 := Kp.cell 1
  have cKp2 := Kp.cell 2
  have lKr := Kr.lt
  have cKr0 := Kr.cell 0
  have cKr1 := Kr.cell 1
  have cKr2 := Kr.cell 2
  have lKx := Kx.lt
  have cKx0 := Kx.cell 0
  have cKx1 := Kx.cell 1
  have cKx2 := Kx.cell 2
  have lKy := Ky.lt
  have cKy0 := Ky.cell 0
  have cKy1 := Ky.cell 1
  have cKy2 := Ky.cell 2
  have lKz := Kz.lt
  have cKz0 := Kz.cell 0
  have cKz1 := Kz.cell 1
  have cKz2 := Kz.cell 2
  have lKw := Kw.lt
  have cKw0 := Kw.cell 0
  have cKw1 := Kw.cell 1
  have cKw2 := Kw.cell 2
  have lKu := Ku.lt
  have cKu0 := Ku.cell 0
  have cKu1 := Ku.cell 1
  have cKu2 := Ku.cell 2
  have lKl := Kl.lt
  have cKl0 := Kl.cell 0
  have cKl1 := Kl.cell 1
  have cKl2 := Kl.cell 2
  simp only [List.getElem?_toArray, List.getElem?_cons_succ, List.getElem?_cons_zero] at cKp0 cKp1 cKp2 cKr0 cKr1 cKr2 cKx0 cKx1 cKx2 cKy0 cKy1 cKy2 cKz0 cKz1 cKz2 cKw0 cKw1 cKw2 cKu0 cKu1 cKu2 cKl0 cKl1 cKl2
  go_wp2_with fail
  go_ret
  exact ⟨rfl, by (repeat' (first | refine bset ?_ (by first | omega | (simp <;> omega)) _ | refine balloc ?_ _ | refine Below.drew ?_ | refine below_drewN ?_ _ | exact hbw | exact Below.refl _ _))⟩

theorem iparts_law (A : Option Addr) (n c : Nat) (ns : Nat → Int) (bits a0 a1 a2 a3 a4 a5 : Int) (A3 : Option Addr) (n3 c3 : Nat) (ns3 : Nat → Int) (A4 : Option Addr) (n4 c4 : Nat) (ns4 : Nat → Int) (w : World) (hr : Ints w A n c ns) (hn : n ≤ 9223372036854775807) (_h0 : -9223372036854775808 ≤ bits ∧ bits ≤ 9223372036854775807) (_h1 : -9223372036854775808 ≤ a0 ∧ a0 ≤ 9223372036854775807) (_h2 : -9223372036854775808 ≤ a1 ∧ a1 ≤ 9223372036854775807) (_h3 : -9223372036854775808 ≤ a2 ∧ a2 ≤ 9223372036854775807) (_h4 : -9223372036854775808 ≤ a3 ∧ a3 ≤ 9223372036854775807) (_h5 : -9223372036854775808 ≤ a4 ∧ a4 ≤ 9223372036854775807) (_h6 : -9223372036854775808 ≤ a5 ∧ a5 ≤ 9223372036854775807) (hr3 : Ints w A3 n3 c3 ns3) (hn3 : n3 ≤ 9223372036854775807) (hr4 : Ints w A4 n4 c4 ns4) (hn4 : n4 ≤ 9223372036854775807) :
    Calls Try.prog 11 #[.slice A n c, .int .i64 bits, .agg #[.int .i64 a0, .int .i64 a1, .int .i64 a2, .int .i64 a3, .int .i64 a4, .int .i64 a5], .slice A3 n3 c3, .slice A4 n4 c4] w fun ed w' => ed = .returned (.bool true) ∧ Below w.heap.size w w' := by
  obtain ⟨W, H, B, s, hB, hmay, hW9, hH9, hMd⟩ := made_b A n c ns bits hn
  obtain ⟨a, b, c2, d, e, f, hmat, hTu⟩ := turn_b a0 a1 a2 a3 a4 a5
  by_cases hd : a * d - b * c2 = 0
  · exact iparts_zero A n c ns bits a0 a1 a2 a3 a4 a5 A3 n3 c3 ns3 A4 n4 c4 ns4 W H B a b c2 d e f s w hr hr3 hn3 hr4 hn4 (Lib.hid hMd) (Lib.hid hTu) hmay hmat hd
  · exact iparts_yes A n c ns bits a0 a1 a2 a3 a4 a5 A3 n3 c3 ns3 A4 n4 c4 ns4 W H B a b c2 d e f s w hr hr3 hn3 hr4 hn4 (Lib.hid hMd) (Lib.hid hTu) hmay hmat hd
end Go.Proofs.Ytegpjjkbbdfggaa.im

/-
  How an argument that is an image (three numbers and a string) or a matrix is opened.
-/
namespace Go.Proofs.Ytegpjjkbbdfggaa.op
set_option linter.unusedVariables false
set_option linter.unusedSimpArgs false
open Go.ChangeShapes Go.WideShapes Go.ChangeAt Go.RowKit Go.Joins Go.Deep bs
section
variable {H : Type} {enc : TypeId × Value → H} {w : World} {r : Reach} {b0 : Nat} {v : Value} {d : DataW H} {p : List MemPlace}

theorem array_4 {α : Type} {cs : Array α} (h : cs.size = 4) : ∃ c0 c1 c2 c3, cs = #[c0, c1, c2, c3] := by
  obtain ⟨l⟩ := cs
  match l, h with
  | [c0, c1, c2, c3], _ => exact ⟨c0, c1, c2, c3, rfl⟩

theorem array_6 {α : Type} {cs : Array α} (h : cs.size = 6) : ∃ c0 c1 c2 c3 c4 c5, cs = #[c0, c1, c2, c3, c4, c5] := by
  obtain ⟨l⟩ := cs
  match l, h with
  | [c0, c1, c2, c3, c4, c5], _ => exact ⟨c0, c1, c2, c3, c4, c5, rfl⟩

set_option maxRecDepth 100000 in
theorem open_mat (hv : Value.okWide Try.prog w r b0 25 v) (h : DataW.Trod enc Try.prog w 0 (fun _ => true) true 25 v d p) :
    ∃ A B C D E F : Int, v = .agg #[.int .i64 A, .int .i64 B, .int .i64 C, .int .i64 D, .int .i64 E, .int .i64 F] ∧ (-9223372036854775808 ≤ A ∧ A ≤ 9223372036854775807) ∧ (-9223372036854775808 ≤ B ∧ B ≤ 9223372036854775807) ∧ (-9223372036854775808 ≤ C ∧ C ≤ 9223372036854775807) ∧ (-9223372036854775808 ≤ D ∧ D ≤ 9223372036854775807) ∧ (-9223372036854775808 ≤ E ∧ E ≤ 9223372036854775807) ∧ (-9223372036854775808 ≤ F ∧ F ≤ 9223372036854775807) := by
  have hs := Try.underlying25
  obtain ⟨cs, rfl, hsz⟩ := okWide_struct hs hv
  obtain ⟨c0, c1, c2, c3, c4, c5, rfl⟩ := array_6 (hsz.trans (by kernel_rfl))
  obtain ⟨fuel, hf⟩ := h
  obtain ⟨xs, n, _, hx, hl, hlen, hf⟩ := DataW.trod_struct hs hf
  match xs, hlen with
  | [y0, y1, y2, y3, y4, y5], _ =>
    have hC : Try.prog.cellsOf 3 = 1 := by kernel_rfl

    have h0 : DataW.trod enc Try.prog w 0 (fun _ => true) true n 3 [c0] = some y0 := by have := hf 0 _ rfl; simpa [Value.cells, hC] using this
    obtain ⟨x0, e0, _, w0⟩ := DataW.trod_int Try.underlying3 h0
    simp only [List.cons.injEq, and_true] at e0
    subst e0
    have h1 : DataW.trod enc Try.prog w 0 (fun _ => true) true n 3 [c1] = some y1 := by have := hf 1 _ rfl; simpa [Value.cells, hC] using this
    obtain ⟨x1, e1, _, w1⟩ := DataW.trod_int Try.underlying3 h1
    simp only [List.cons.injEq, and_true] at e1
    subst e1
    have h2 : DataW.trod enc Try.prog w 0 (fun _ => true) true n 3 [c2] = some y2 := by have := hf 2 _ rfl; simpa [Value.cells, hC] using this
    obtain ⟨x2, e2, _, w2⟩ := DataW.trod_int Try.underlying3 h2
    simp only [List.cons.injEq, and_true] at e2
    subst e2
    have h3 : DataW.trod enc Try.prog w 0 (fun _ => true) true n 3 [c3] = some y3 := by have := hf 3 _ rfl; simpa [Value.cells, hC] using this
    obtain ⟨x3, e3, _, w3⟩ := DataW.trod_int Try.underlying3 h3
    simp only [List.cons.injEq, and_true] at e3
    subst e3
    have h4 : DataW.trod enc Try.prog w 0 (fun _ => true) true n 3 [c4] = some y4 := by have := hf 4 _ rfl; simpa [Value.cells, hC] using this
    obtain ⟨x4, e4, _, w4⟩ := DataW.trod_int Try.underlying3 h4
    simp only [List.cons.injEq, and_true] at e4
    subst e4
    have h5 : DataW.trod enc Try.prog w 0 (fun _ => true) true n 3 [c5] = some y5 := by have := hf 5 _ rfl; simpa [Value.cells, hC] using this
    obtain ⟨x5, e5, _, w5⟩ := DataW.trod_int Try.underlying3 h5
    simp only [List.cons.injEq, and_true] at e5
    subst e5
    exact ⟨x0, x1, x2, x3, x4, x5, rfl, bd_i64 w0, bd_i64 w1, bd_i64 w2, bd_i64 w3, bd_i64 w4, bd_i64 w5⟩

set_option maxRecDepth 100000 in
theorem open_image (hv : Value.okWide Try.prog w r b0 23 v) (h : DataW.Trod enc Try.prog w 0 (fun _ => true) true 23 v d p) :
    ∃ (A B C : Int) (s : ByteArray), v = .agg #[.int .i64 A, .int .i64 B, .int .i64 C, .string s] ∧ (-9223372036854775808 ≤ A ∧ A ≤ 9223372036854775807) ∧ (-9223372036854775808 ≤ B ∧ B ≤ 9223372036854775807) ∧ (-9223372036854775808 ≤ C ∧ C ≤ 9223372036854775807) ∧ (s.size : Int) ≤ 9223372036854775807 := by
  have hs := Try.underlying23
  obtain ⟨cs, rfl, hsz⟩ := okWide_struct hs hv
  obtain ⟨c0, c1, c2, c3, rfl⟩ := array_4 (hsz.trans (by kernel_rfl))
  obtain ⟨fuel, hf⟩ := h
  obtain ⟨xs, n, _, hx, hl, hlen, hf⟩ := DataW.trod_struct hs hf
  match xs, hlen with
  | [y0, y1, y2, y3], _ =>
    have hC : Try.prog.cellsOf 3 = 1 := by kernel_rfl
    have hCs : Try.prog.cellsOf 9 = 1 := by kernel_rfl

    have h0 : DataW.trod enc Try.prog w 0 (fun _ => true) true n 3 [c0] = some y0 := by have := hf 0 _ rfl; simpa [Value.cells, hC] using this
    obtain ⟨x0, e0, _, w0⟩ := DataW.trod_int Try.underlying3 h0
    simp only [List.cons.injEq, and_true] at e0
    subst e0
    have h1 : DataW.trod enc Try.prog w 0 (fun _ => true) true n 3 [c1] = some y1 := by have := hf 1 _ rfl; simpa [Value.cells, hC] using this
    obtain ⟨x1, e1, _, w1⟩ := DataW.trod_int Try.underlying3 h1
    simp only [List.cons.injEq, and_true] at e1
    subst e1
    have h2 : DataW.trod enc Try.prog w 0 (fun _ => true) true n 3 [c2] = some y2 := by have := hf 2 _ rfl; simpa [Value.cells, hC] using this
    obtain ⟨x2, e2, _, w2⟩ := DataW.trod_int Try.underlying3 h2
    simp only [List.cons.injEq, and_true] at e2
    subst e2
    have h3 : DataW.trod enc Try.prog w 0 (fun _ => true) true n 9 [c3] = some y3 := by have := hf 3 _ rfl; simpa [Value.cells, hC, hCs] using this
    obtain ⟨x3, e3, _, w3⟩ := DataW.trod_string Try.underlying9 h3
    simp only [List.cons.injEq, and_true] at e3
    subst e3
    exact ⟨x0, x1, x2, x3, rfl, bd_i64 w0, bd_i64 w1, bd_i64 w2, by unfold maxLen at w3; omega⟩
end
end Go.Proofs.Ytegpjjkbbdfggaa.op

/-
  How an argument that is an array of six numbers is opened (the text of open/XOpenMat).
-/
namespace Go.Proofs.Ytegpjjkbbdfggaa.op
set_option linter.unusedVariables false
set_option linter.unusedSimpArgs false
open Go.ChangeShapes Go.WideShapes Go.ChangeAt Go.RowKit Go.Joins Go.Deep bs
section
variable {H : Type} {enc : TypeId × Value → H} {w : World} {r : Reach} {b0 : Nat} {v : Value} {d : DataW H} {p : List MemPlace}
set_option maxRecDepth 100000 in
theorem open_arr6 (hv : Value.okWide Try.prog w r b0 34 v) (h : DataW.Trod enc Try.prog w 0 (fun _ => true) true 34 v d p) :
    ∃ A B C D E F : Int, v = .agg #[.int .i64 A, .int .i64 B, .int .i64 C, .int .i64 D, .int .i64 E, .int .i64 F] ∧ (-9223372036854775808 ≤ A ∧ A ≤ 9223372036854775807) ∧ (-9223372036854775808 ≤ B ∧ B ≤ 9223372036854775807) ∧ (-9223372036854775808 ≤ C ∧ C ≤ 9223372036854775807) ∧ (-9223372036854775808 ≤ D ∧ D ≤ 9223372036854775807) ∧ (-9223372036854775808 ≤ E ∧ E ≤ 9223372036854775807) ∧ (-9223372036854775808 ≤ F ∧ F ≤ 9223372036854775807) := by
  have hs := Try.underlying34
  have hcs : ∃ cs, v = .agg cs ∧ cs.size = Try.prog.cellsOf 34 := by
    simp only [Value.okWide, hs] at hv
    obtain ⟨cs, h1, h2, _⟩ := hv
    exact ⟨cs, h1, h2⟩
  obtain ⟨cs, rfl, hsz⟩ := hcs
  obtain ⟨c0, c1, c2, c3, c4, c5, rfl⟩ := array_6 (hsz.trans (by kernel_rfl))
  obtain ⟨fuel, hf⟩ := h
  obtain ⟨xs, n, _, hx, hl, hlen, hf⟩ := DataW.trod_array hs hf
  match xs, hlen with
  | [y0, y1, y2, y3, y4, y5], _ =>
    have hC : Try.prog.cellsOf 3 = 1 := by kernel_rfl
    have h0 : DataW.trod enc Try.prog w 0 (fun _ => true) true n 3 [c0] = some y0 := by have := hf 0 (by omega); simpa [Value.cells, hC] using this
    obtain ⟨x0, e0, _, w0⟩ := DataW.trod_int Try.underlying3 h0
    simp only [List.cons.injEq, and_true] at e0
    subst e0
    have h1 : DataW.trod enc Try.prog w 0 (fun _ => true) true n 3 [c1] = some y1 := by have := hf 1 (by omega); simpa [Value.cells, hC] using this
    obtain ⟨x1, e1, _, w1⟩ := DataW.trod_int Try.underlying3 h1
    simp only [List.cons.injEq, and_true] at e1
    subst e1
    have h2 : DataW.trod enc Try.prog w 0 (fun _ => true) true n 3 [c2] = some y2 := by have := hf 2 (by omega); simpa [Value.cells, hC] using this
    obtain ⟨x2, e2, _, w2⟩ := DataW.trod_int Try.underlying3 h2
    simp only [List.cons.injEq, and_true] at e2
    subst e2
    have h3 : DataW.trod enc Try.prog w 0 (fun _ => true) true n 3 [c3] = some y3 := by have := hf 3 (by omega); simpa [Value.cells, hC] using this
    obtain ⟨x3, e3, _, w3⟩ := DataW.trod_int Try.underlying3 h3
    simp only [List.cons.injEq, and_true] at e3
    subst e3
    have h4 : DataW.trod enc Try.prog w 0 (fun _ => true) true n 3 [c4] = some y4 := by have := hf 4 (by omega); simpa [Value.cells, hC] using this
    obtain ⟨x4, e4, _, w4⟩ := DataW.trod_int Try.underlying3 h4
    simp only [List.cons.injEq, and_true] at e4
    subst e4
    have h5 : DataW.trod enc Try.prog w 0 (fun _ => true) true n 3 [c5] = some y5 := by have := hf 5 (by omega); simpa [Value.cells, hC] using this
    obtain ⟨x5, e5, _, w5⟩ := DataW.trod_int Try.underlying3 h5
    simp only [List.cons.injEq, and_true] at e5
    subst e5
    exact ⟨x0, x1, x2, x3, x4, x5, rfl, bd_i64 w0, bd_i64 w1, bd_i64 w2, bd_i64 w3, bd_i64 w4, bd_i64 w5⟩
end
end Go.Proofs.Ytegpjjkbbdfggaa.op
