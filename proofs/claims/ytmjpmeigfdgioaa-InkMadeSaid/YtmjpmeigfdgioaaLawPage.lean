/-
  Pages by numbers: tympanlaw36.Page, side. (PRUNE)
-/
import Derived.Test.YtmjpmeigfdgioaaPage
import Derived.Test.YtmjpmeigfdgioaaUpTail
import Derived.Test.YtmjpmeigfdgioaaOpenIntsM
import Derived.BigQuiet
import Derived.BigRegion
namespace Go.Proofs.Ytmjpmeigfdgioaa.rg
set_option linter.unusedVariables false
set_option linter.unusedSimpArgs false
open Go.RowKit bs sp ik op

theorem tmod_cases (v n : Int) (h0 : 0 < n) : ∃ q : Int, v.tmod n = q ∧ -n < q ∧ q < n ∧ (q < 0 → q + n = v % n) ∧ (0 ≤ q → q = v % n) := by
  refine ⟨_, rfl, ?_⟩
  rcases Int.lt_or_le v 0 with hv | hv
  · have e : v.tmod n = -((-v) % n) := by
      have := Int.neg_tmod (-v) n
      rw [Int.neg_neg] at this
      rw [this, Int.tmod_eq_emod_of_nonneg (by omega)]
    have b0 := Int.emod_nonneg (-v) (show n ≠ 0 by omega)
    have b1 := Int.emod_lt_of_pos (-v) h0
    have c0 := Int.emod_nonneg v (show n ≠ 0 by omega)
    have c1 := Int.emod_lt_of_pos v h0
    have d1 := Int.mul_ediv_add_emod (-v) n
    have d2 := Int.mul_ediv_add_emod v n
    rw [e]
    have key : (v % n = 0 ∧ (-v) % n = 0) ∨ v % n = n - (-v) % n := by
      have hs : n * ((-v) / n + v / n) = -((-v) % n + v % n) := by rw [Int.mul_add]; omega
      have hb : (-v) / n + v / n = 0 ∨ (-v) / n + v / n = -1 := by
        have h1 : n * ((-v) / n + v / n) ≤ 0 := by omega
        have h2 : -(2 * n) < n * ((-v) / n + v / n) := by omega
        have h3 : (-v) / n + v / n ≤ 0 := by
          rcases Int.lt_or_le 0 ((-v) / n + v / n) with h | h
          · have := Int.mul_pos h0 h; omega
          · exact h
        have h4 : -2 < (-v) / n + v / n := by
          rcases Int.lt_or_le (-2) ((-v) / n + v / n) with h | h
          · exact h
          · have := Int.mul_le_mul_of_nonneg_left h (show 0 ≤ n by omega); omega
        omega
      rcases hb with hb | hb <;> rw [hb] at hs <;> omega
    omega
  · rw [Int.tmod_eq_emod_of_nonneg hv]
    have b0 := Int.emod_nonneg v (show n ≠ 0 by omega)
    have b1 := Int.emod_lt_of_pos v h0
    omega

theorem place_any (v n : Int) (w : World) (h0 : 0 < n) (h1 : n ≤ 1152921504606846976) :
    Calls Try.prog 25 #[.int .i64 v, .int .i64 n] w fun e w' => e = .returned (.int .i64 (v % n)) ∧ w = w' := by
  have hne : (n == 0) = false := by simp; omega
  obtain ⟨q, hq, q0, q1, q2, q3⟩ := tmod_cases v n h0
  have Q2 := Lib.hid q2
  have Q3 := Lib.hid q3
  clear q2 q3
  go_enter Try.func25, Try.ntmps25
  go_wp2_with fail
  all_goals go_ret
  all_goals refine ⟨ret_int ?_, rfl⟩
  · exact Q2.out (by omega)
  · exact Q3.out (by omega)

theorem lside_any (v : Int) (w : World) : Calls Try.prog 11 #[.int .i64 v] w fun e w' => ∃ k : Nat, 1 ≤ k ∧ k ≤ 9 ∧ v % 9 + 1 = (k : Int) ∧ e = .returned (.int .i64 (k : Int)) ∧ w = w' := by
  have hb0 := Int.emod_nonneg v (show (9 : Int) ≠ 0 by omega)
  have hb1 := Int.emod_lt_of_pos v (show (0 : Int) < 9 by omega)
  have HP := Lib.hid (fun W => place_any v 9 W (by omega) (by omega))
  obtain ⟨r, hr⟩ : ∃ r, v % 9 = r := ⟨_, rfl⟩
  rw [hr] at HP hb0 hb1 ⊢
  go_enter Try.func11, Try.ntmps11
  go_wp2_with fail
  refine (HP.out _).mono ?_
  rintro e_ w1 ⟨rfl, rfl⟩
  go_wp2_with fail
  go_ret
  exact ⟨(r + 1).toNat, by omega, by omega, by omega, ret_int (by omega), rfl⟩

/-- Page's loop: the bytes, the page's box, the result's box -/
def QRel (w : World) (n : Nat) (pv : Array Value) (wr : World) : Prop :=
  ∃ cs B, Blk wr (w.heap.size + 1) 5 cs ∧ Holds cs n B ∧ Blk wr (w.heap.size + 1 + 1) 30 pv ∧ Blk wr w.heap.size 30 #[.int .i64 0, .int .i64 0, .slice none 0 0] ∧ Below w.heap.size w wr
theorem QRel.below {w wr w' : World} {n : Nat} {pv : Array Value} (h : QRel w n pv wr) (hb : Below wr.heap.size wr w') : QRel w n pv w' := by
  obtain ⟨cs, B, h1, h2, h3, h4, h5⟩ := h
  exact ⟨cs, B, h1.below hb h1.lt, h2, h3.below hb h3.lt, h4.below hb h4.lt, btrans h5 hb⟩
theorem QRel.put {w wr : World} {n : Nat} {pv : Array Value} (h : QRel w n pv wr) (k : Nat) (v : Int) (h0 : 0 ≤ v) (h1 : v ≤ 255) : QRel w n pv (wr.setCell ⟨w.heap.size + 1, k, none⟩ (.int .u8 v)) := by
  obtain ⟨cs, B, h1', h2, h3, h4, h5⟩ := h
  exact ⟨_, _, h1'.set_ k _, h2.put k v h0 h1, h3.far (by simp) _, h4.far (by simp) _, bset h5 (by simp) _⟩
theorem QRel.start (w : World) (n : Nat) (pv : Array Value) : QRel w n pv (((w.alloc (.cells #[.int .i64 0, .int .i64 0, .slice none 0 0] 30)).alloc (.cells (madeCells #[.int .u8 0] n) 5)).alloc (.cells pv 30)) := by
  have b0 := Blk.new w 30 #[.int .i64 0, .int .i64 0, .slice none 0 0]
  have b1 := Blk.new (w.alloc (.cells #[.int .i64 0, .int .i64 0, .slice none 0 0] 30)) 5 (madeCells #[.int .u8 0] n)
  have b2 := Blk.new ((w.alloc (.cells #[.int .i64 0, .int .i64 0, .slice none 0 0] 30)).alloc (.cells (madeCells #[.int .u8 0] n) 5)) 30 pv
  have s1 : ∀ (u : World) (o : Obj), (u.alloc o).heap.size = u.heap.size + 1 := fun u o => by simp
  simp only [s1] at b1 b2
  exact ⟨_, fun _ => 0, b1.alloc _, ⟨by rw [size_madeCells]; omega, fun j hj => ⟨by simp [madeCells, hj, Nat.mod_one], Int.le_refl _, show (0 : Int) ≤ 255 by omega⟩⟩, b2, (b0.alloc _).alloc _, by (repeat' (first | exact Below.refl _ _ | exact Below.refl _ _ | refine balloc ?_ _ | refine Below.drew ?_ | refine below_drewN ?_ _ | refine bset ?_ (by first | omega | (simp <;> omega)) _))⟩

/-- the four bytes -/
def c4 (a : Nat) : Int := if a = 0 then 0 else if a = 1 then 255 else if a = 2 then 200 else 17
theorem c4_bd (a : Nat) : 0 ≤ c4 a ∧ c4 a ≤ 255 := by unfold c4; (repeat' split) <;> omega
theorem c4_get (a : Nat) (h : a < 4) : (#[.int .u8 0, .int .u8 255, .int .u8 200, .int .u8 17] : Array Value)[a]? = some (.int .u8 (c4 a)) := by
  rcases (show a = 0 ∨ a = 1 ∨ a = 2 ∨ a = 3 by omega) with rfl | rfl | rfl | rfl <;> rfl

set_option maxRecDepth 100000 in
set_option maxHeartbeats 3200000 in
theorem lpage_any (A : Option Addr) (n c : Nat) (ns : Nat → Int) (W H N : Nat) (w : World) (hr : Ints w A n c ns) (hn : n ≤ 9223372036854775807) (hW : 1 ≤ W ∧ W ≤ 64) (hH : 1 ≤ H ∧ H ≤ 64) (hN : N = 3 * (W * H)) :
    Calls Try.prog 10 #[.slice A n c, .int .i64 (W : Int), .int .i64 (H : Int)] w fun e w' => ∃ g B, e = .returned (.agg #[.int .i64 (W : Int), .int .i64 (H : Int), .slice (some ⟨g, 0, none⟩) N N]) ∧ Pg w' (some ⟨g, 0, none⟩) N N B ∧ Below w.heap.size w w' := by
  have hs := page_size hW hH
  rw [← hN] at hs
  obtain ⟨i0, hi, hz0, hz1, hz2⟩ := info_parts (show (Try.prog.info? 5).map (fun i => (i.zero, i.size, i.bytes)) = some (some (.int .u8 0), 1, 1) by kernel_rfl)
  have hmk := fun W => run_make_rowN (P := Try.prog) 28 5 i0 (.int .u8 0) Try.underlying28 hi hz0 .i64 .i64 N N (Nat.le_refl _) (by rw [hz2]; omega) (by omega) W
  simp only [hz1, Nat.mul_one] at hmk
  obtain ⟨M, hM⟩ : ∃ M, W * H = M := ⟨_, rfl⟩
  have hM1 : (W : Int) * (H : Int) = (M : Int) := by rw [← hM]; push_cast; rfl
  have hM2 : 3 * (W : Int) * (H : Int) = 3 * (M : Int) := by rw [Int.mul_assoc, hM1]
  have hN3 : N = 3 * M := by rw [hN, hM]
  have hN5 : ((N : Nat) : Int) = 3 * (M : Int) := by omega
  simp only [hN5] at hmk
  subst hN3
  have HST := Lib.hid (QRel.start w (3 * M) #[.int .i64 (W : Int), .int .i64 (H : Int), .slice (some ⟨w.heap.size + 1, 0, none⟩) (3 * M) (3 * M)])
  have HR := Lib.hid hr
  obtain ⟨w0, w1⟩ := hW
  obtain ⟨h0, h1⟩ := hH
  obtain ⟨s0, s1⟩ := hs
  clear hr hM hN
  go_enter Try.func10, Try.ntmps10
  go_wp2_with fail
  clear hmk hi hz0 hz1 hz2
  go_loopw [8] (fun kv wr => ∃ k : Nat, k ≤ M ∧ kv = .int .i64 (k : Int) ∧ QRel w (3 * M) #[.int .i64 (W : Int), .int .i64 (H : Int), .slice (some ⟨w.heap.size + 1, 0, none⟩) (3 * M) (3 * M)] wr) (fun kv _ => M - (intOf kv).toNat)
  case atStart => exact ⟨0, by omega, rfl, HST.out⟩
  case round =>
    clear HST
    obtain ⟨k, hk, rfl, hQ⟩ := hrel
    by_cases hgo : k < M ∧ 0 < n
    · obtain ⟨hlt, hn0⟩ := hgo
      have d1 : decide ((k : Int) < (M : Int)) = true := by simp; omega
      have d2 : decide ((0 : Int) < (n : Int)) = true := by simp; omega
      obtain ⟨hnc, hcell⟩ := HR.out
      obtain ⟨b, o, rfl, hbl, hcell⟩ := hcell hn0
      have hmodn : (k : Int).tmod (n : Int) = ((k % n : Nat) : Int) := by rw [Int.tmod_eq_emod_of_nonneg (by omega)]; push_cast; rfl
      have hdivn : (k : Int).tdiv (n : Int) = ((k / n : Nat) : Int) := by rw [Int.tdiv_eq_ediv_of_nonneg (by omega)]; push_cast; rfl
      have hrlt := Nat.mod_lt k hn0
      have hqle : k / n ≤ k := Nat.div_le_self k n
      generalize k % n = r at *
      generalize k / n = q at *
      have htm : (q : Int).tmod 12 = ((q % 12 : Nat) : Int) := by rw [Int.tmod_eq_emod_of_nonneg (by omega)]; push_cast; rfl
      have htl : q % 12 < 12 := Nat.mod_lt q (by omega)
      generalize q % 12 = t at *
      have hc := hcell r hrlt
      obtain ⟨x, hx⟩ : ∃ x, ns r = x := ⟨_, rfl⟩
      rw [hx] at hc
      have HPL := Lib.hid (fun W => place_any x 1048576 W (by decide) (by decide))
      obtain ⟨z, hz⟩ : ∃ z, x % 1048576 = z := ⟨_, rfl⟩
      have hz1 : 0 ≤ z ∧ z < 1048576 := by omega
      replace HPL : Hid (∀ W', Calls Try.prog 25 #[.int .i64 x, .int .i64 1048576] W' fun ed w' => ed = .returned (.int .i64 z) ∧ W' = w') := by have := HPL.out; rw [hz] at this; exact Lib.hid this
      have hmz : ((n : Int) == 0) = false := by simp; omega
      have hbw : Below w.heap.size w wr := by obtain ⟨_, _, _, _, _, _, h⟩ := hQ; exact h
      have hcr := (hbw.cell (p := ⟨b, o + r, none⟩) hbl).trans hc
      have hbr : b < wr.heap.size := Nat.lt_of_lt_of_le hbl hbw.size
      have HQ := Lib.hid hQ
      obtain ⟨hz10, hz11⟩ := hz1
      clear hQ hc hcell hx hz hbw
      have v2 : ∀ u : Up wr, u.val.cell? ⟨b, o + r, none⟩ = some (.int .i64 x) := fun u => (u.cell hbr).trans hcr
      have HU := Lib.hid (fun u : Up wr => up_same (u := u) (HPL.out u.val))
      obtain ⟨y, hy⟩ : ∃ y : Nat, z / 2 ^ t = (y : Int) := ⟨(z / 2 ^ t).toNat, by have := Int.ediv_nonneg hz10 (show (0 : Int) ≤ 2 ^ t from Int.le_of_lt (Int.pow_pos (by omega))); omega⟩
      go_wp2_with fail
      refine wp_region_up (by kernel_rfl) (by kernel_rfl) ?_
      repeat (go_big_quiet_step (fail))
      go_big_quiet_step (exact HU.out _)
      repeat (go_big_quiet_step (fail))
      refine wpQuiet_nil ?_
      rintro _ ⟨uq, rfl⟩
      have hQ := HQ.out.below uq.ok
      clear HQ v2 HU HPL hcr hbr hmodn hdivn htm
      generalize hwx : uq.val = wz at *
      clear hwx uq
      have hy2 : (y : Int).tdiv 2 = ((y / 2 : Nat) : Int) := by rw [Int.tdiv_eq_ediv_of_nonneg (by omega)]; push_cast; rfl
      have hy4 : (y : Int).tdiv 4 = ((y / 4 : Nat) : Int) := by rw [Int.tdiv_eq_ediv_of_nonneg (by omega)]; push_cast; rfl
      have m0 : (y : Int).tmod 4 = ((y % 4 : Nat) : Int) := by rw [Int.tmod_eq_emod_of_nonneg (by omega)]; push_cast; rfl
      have m1 : ((y / 2 : Nat) : Int).tmod 4 = ((y / 2 % 4 : Nat) : Int) := by rw [Int.tmod_eq_emod_of_nonneg (by omega)]; push_cast; rfl
      have m2 : ((y / 4 : Nat) : Int).tmod 4 = ((y / 4 % 4 : Nat) : Int) := by rw [Int.tmod_eq_emod_of_nonneg (by omega)]; push_cast; rfl
      have l0 : y % 4 < 4 := Nat.mod_lt _ (by omega)
      have l1 : y / 2 % 4 < 4 := Nat.mod_lt _ (by omega)
      have l2 : y / 4 % 4 < 4 := Nat.mod_lt _ (by omega)
      have b2 : y / 2 ≤ y := Nat.div_le_self _ _
      have b4 : y / 4 ≤ y := Nat.div_le_self _ _
      generalize y % 4 = a0 at *
      generalize y / 2 % 4 = a1 at *
      generalize y / 4 % 4 = a2 at *
      generalize y / 2 = y2 at *
      generalize y / 4 = y4 at *
      have hy9 : y ≤ 1048576 := by
        have h1 : z / 2 ^ t ≤ z := Int.ediv_le_self _ hz10
        omega
      have hQ2 : QRel w (3 * M) #[.int .i64 (W : Int), .int .i64 (H : Int), .slice (some ⟨w.heap.size + 1, 0, none⟩) (3 * M) (3 * M)] (wz.alloc (.cells #[.int .u8 0, .int .u8 255, .int .u8 200, .int .u8 17] 62)) := hQ.below (by (repeat' (first | exact Below.refl _ _ | exact Below.refl _ _ | refine balloc ?_ _ | refine Below.drew ?_ | refine below_drewN ?_ _ | refine bset ?_ (by first | omega | (simp <;> omega)) _)))
      have ha := Blk.new wz 62 #[.int .u8 0, .int .u8 255, .int .u8 200, .int .u8 17]
      obtain ⟨ab, hab⟩ : ∃ ab, wz.heap.size = ab := ⟨_, rfl⟩
      rw [hab] at ha
      have hne : ab ≠ w.heap.size + 1 := by obtain ⟨_, _, h1, _⟩ := hQ; have := h1.lt; omega
      go_wp2_with fail
      generalize hwx : wz.alloc (.cells #[.int .u8 0, .int .u8 255, .int .u8 200, .int .u8 17] 62) = wy at *
      clear hwx hab
      obtain ⟨cs, B, q1, q2, q3, q4, q5⟩ := id hQ2
      have e0 := (ha.cell a0).trans (c4_get a0 l0)
      have e1 := (ha.cell a1).trans (c4_get a1 l1)
      have e2 := (ha.cell a2).trans (c4_get a2 l2)
      have p2 := q3.cell 2
      simp only [List.getElem?_toArray, List.getElem?_cons_succ, List.getElem?_cons_zero] at p2
      have g0 : wy.cell? ⟨w.heap.size + 1, 3 * k, none⟩ = some (.int .u8 (B (3 * k))) := by rw [q1.cell]; exact (q2.2 _ (by omega)).1
      have g1 : wy.cell? ⟨w.heap.size + 1, 3 * k + 1, none⟩ = some (.int .u8 (B (3 * k + 1))) := by rw [q1.cell]; exact (q2.2 _ (by omega)).1
      have g2 : wy.cell? ⟨w.heap.size + 1, 3 * k + 2, none⟩ = some (.int .u8 (B (3 * k + 2))) := by rw [q1.cell]; exact (q2.2 _ (by omega)).1
      have f0 := q1.frozen (3 * k)
      have f1 := q1.frozen (3 * k + 1)
      have f2 := q1.frozen (3 * k + 2)
      have HQ := Lib.hid hQ2
      have h0 := c4_bd a0
      have h1 := c4_bd a1
      have h2 := c4_bd a2
      generalize c4 a0 = d0 at *
      generalize c4 a1 = d1 at *
      generalize c4 a2 = d2 at *
      have H0 := Lib.hid h0
      have H1 := Lib.hid h1
      have H2 := Lib.hid h2
      generalize B (3 * k) = z0 at *
      generalize B (3 * k + 1) = z1 at *
      generalize B (3 * k + 2) = z2 at *
      have wk0 : IntKind.i64.wrap (3 * (k : Int)) = 3 * (k : Int) := by simp only [IntKind.wrap, IntKind.signed, IntKind.bits]; simp; omega
      have j0 : (0 : Int) ≤ 3 * (k : Int) := by omega
      have j1 : 3 * (k : Int) + 2 < 3 * (M : Int) := by omega
      have t0 : (3 * (k : Int)).toNat = 3 * k := by omega
      have t1 : (3 * (k : Int) + 1).toNat = 3 * k + 1 := by omega
      have t2 : (3 * (k : Int) + 2).toNat = 3 * k + 2 := by omega
      clear q1 q2 q3 q4 q5 ha hQ hQ2 h0 h1 h2 hy
      go_region
      have hN := ((HQ.out.put (3 * k) d0 H0.out.1 H0.out.2).put (3 * k + 1) d1 H1.out.1 H1.out.2).put (3 * k + 2) d2 H2.out.1 H2.out.2
      have HN := Lib.hid (hN.below (Below.drew (Below.refl _ _)))
      clear hN HQ H0 H1 H2 e0 e1 e2 g0 g1 g2 f0 f1 f2 p2
      go_wp2_with fail
      go_roundw
      case rel => exact ⟨k + 1, by omega, by go_num, HN.out⟩
      case measure => simp [intOf]; omega
    · obtain ⟨cs, B, q1, q2, q3, q4, q5⟩ := hQ
      have p0 := q3.cell 0
      have p1 := q3.cell 1
      have p2 := q3.cell 2
      have z0 := q4.cell 0
      have z1 := q4.cell 1
      have z2 := q4.cell 2
      have f0 := q4.frozen 0
      have f1 := q4.frozen 1
      have f2 := q4.frozen 2
      simp only [List.getElem?_toArray, List.getElem?_cons_succ, List.getElem?_cons_zero] at p0 p1 p2 z0 z1 z2
      have Q1 := Lib.hid q1
      have Q2 := Lib.hid q2
      have Q4 := Lib.hid q4
      have HBW := Lib.hid q5
      clear q1 q2 q3 q4 q5
      by_cases h : k < M
      · have d1 : decide ((k : Int) < (M : Int)) = true := by simp; omega
        have d2 : decide ((0 : Int) < (n : Int)) = false := by simp; omega
        go_wp2_with fail
        have K := ((Q4.out.set_ 0 (.int .i64 (W : Int))).set_ 1 (.int .i64 (H : Int))).set_ 2 (.slice (some ⟨w.heap.size + 1, 0, none⟩) (3 * M) (3 * M))
        refine ret_struct1 (g := w.heap.size) (t := 30) (cs := #[.int .i64 (W : Int), .int .i64 (H : Int), .slice (some ⟨w.heap.size + 1, 0, none⟩) (3 * M) (3 * M)]) rfl rfl ?_ Try.underlying30 rfl rfl rfl ?_
        · exact K
        · exact ⟨w.heap.size + 1, B, rfl, Q2.out.pg (((Q1.out.far (p := ⟨_, 0, none⟩) (by simp) _).far (p := ⟨_, 1, none⟩) (by simp) _).far (p := ⟨_, 2, none⟩) (by simp) _) (Nat.le_refl _), by (repeat' (first | refine bset ?_ (by first | omega | (simp <;> omega)) _ | refine balloc ?_ _ | refine Below.drew ?_ | refine below_drewN ?_ _ | exact HBW.out | exact Below.refl _ _))⟩
      · have d1 : decide ((k : Int) < (M : Int)) = false := by simp; omega
        go_wp2_with fail
        have K := ((Q4.out.set_ 0 (.int .i64 (W : Int))).set_ 1 (.int .i64 (H : Int))).set_ 2 (.slice (some ⟨w.heap.size + 1, 0, none⟩) (3 * M) (3 * M))
        refine ret_struct1 (g := w.heap.size) (t := 30) (cs := #[.int .i64 (W : Int), .int .i64 (H : Int), .slice (some ⟨w.heap.size + 1, 0, none⟩) (3 * M) (3 * M)]) rfl rfl ?_ Try.underlying30 rfl rfl rfl ?_
        · exact K
        · exact ⟨w.heap.size + 1, B, rfl, Q2.out.pg (((Q1.out.far (p := ⟨_, 0, none⟩) (by simp) _).far (p := ⟨_, 1, none⟩) (by simp) _).far (p := ⟨_, 2, none⟩) (by simp) _) (Nat.le_refl _), by (repeat' (first | refine bset ?_ (by first | omega | (simp <;> omega)) _ | refine balloc ?_ _ | refine Below.drew ?_ | refine below_drewN ?_ _ | exact HBW.out | exact Below.refl _ _))⟩
end Go.Proofs.Ytmjpmeigfdgioaa.rg
