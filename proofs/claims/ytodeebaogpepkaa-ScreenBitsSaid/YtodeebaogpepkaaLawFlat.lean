/-
  ScreenFlat: a page of one grey value whose sides are multiples of 8 has the expected number of dots.
-/
import Derived.Test.YtodeebaogpepkaaLawDarker
import Derived.Test.YtodeebaogpepkaaLawsA
import Derived.Test.YtodeebaogpepkaaKnown
namespace Go.Proofs.Ytodeebaogpepkaa.rg
set_option linter.unusedVariables false
set_option linter.unusedSimpArgs false
open Go.RowKit bs sp ik op

theorem new_pg (W H N : Nat) (w : World) (hW : 1 ≤ W ∧ W ≤ 64) (hH : 1 ≤ H ∧ H ≤ 64) (hN : N = 3 * (W * H)) :
    Calls Try.prog 32 #[.int .i64 (W : Int), .int .i64 (H : Int)] w fun e w' => ∃ b o c, e = .returned (.tuple #[.agg #[.int .i64 (W : Int), .int .i64 (H : Int), .slice (some ⟨b, o, none⟩) N c], .int .i64 0]) ∧ Pg w' (some ⟨b, o, none⟩) N c (fun _ => 255) ∧ Below w.heap.size w w' := by
  have hs := page_size hW hH
  refine (new_yes W H w hW hH).mono ?_
  rintro e w' ⟨A, n, c, he, ⟨h1, h2, h3⟩, hb⟩
  have hn : n = N := by rw [← h1, hN]; simp
  subst hn
  obtain ⟨b, o, rfl, hlt, hc⟩ := h3 (by omega)
  refine ⟨b, o, c, he, ⟨h2, b, o, rfl, hlt, fun j hj => ⟨?_, show (0 : Int) ≤ 255 by decide, show (255 : Int) ≤ 255 by decide⟩⟩, hb⟩
  rw [hc j (by rw [h1]; exact hj)]
  simp
theorem csum_add (F : Nat → Int) (m n : Nat) : csum F (m + n) = csum F m + csum (fun t => F (m + t)) n := by
  induction n with
  | zero => simp [csum]
  | succ n ih =>
    show csum F (m + n) + F (m + n) = csum F m + (csum (fun t => F (m + t)) n + F (m + n))
    rw [ih]
    omega
theorem csum_ext (F G : Nat → Int) (n : Nat) (h : ∀ t, t < n → F t = G t) : csum F n = csum G n := by
  induction n with
  | zero => rfl
  | succ n ih =>
    show csum F n + F n = csum G n + G n
    rw [ih (fun t ht => h t (by omega)), h n (by omega)]
theorem csum_period (F : Nat → Int) (h : ∀ k t, F (8 * k + t) = F t) (a : Nat) : csum F (8 * a) = (a : Int) * csum F 8 := by
  induction a with
  | zero => simp [csum]
  | succ a ih =>
    rw [show 8 * (a + 1) = 8 * a + 8 by omega, csum_add, ih, csum_ext _ F 8 (fun t _ => h a t)]
    push_cast
    rw [Int.add_mul, Int.one_mul]
/-- one dot -/
def dot (g : Int) (j i : Nat) : Int := if sc.tone g (i : Int) (j : Int) = true then 1 else 0
theorem dot_period (g : Int) (j k t : Nat) : dot g j (8 * k + t) = dot g j t := by
  unfold dot
  rw [sc.tone_mod g ((8 * k + t : Nat) : Int), sc.tone_mod g (t : Int)]
  have : ((8 * k + t : Nat) : Int) % 8 = (t : Int) % 8 := by omega
  rw [this]
theorem dot_rows (g : Int) (k t i : Nat) : dot g (8 * k + t) i = dot g t i := by
  unfold dot
  rw [sc.tone_mod g (i : Int) ((8 * k + t : Nat) : Int), sc.tone_mod g (i : Int) (t : Int)]
  have : ((8 * k + t : Nat) : Int) % 8 = (t : Int) % 8 := by omega
  rw [this]
theorem dot_some (g : Int) (j n : Nat) : csum (dot g j) n = (sc.some_ g 0 (j : Int) n : Int) := by
  induction n with
  | zero => rfl
  | succ n ih =>
    show csum (dot g j) n + dot g j n = ((sc.some_ g 0 (j : Int) n + sc.one (sc.tone g (0 + (n : Nat)) (j : Int)) : Nat) : Int)
    rw [ih]
    unfold dot sc.one
    rw [Int.zero_add]
    split <;> simp
theorem dot_cnt (g : Int) (n : Nat) : csum (fun j => csum (dot g j) 8) n = (sc.cnt g 0 0 n : Int) := by
  induction n with
  | zero => rfl
  | succ n ih =>
    show csum (fun j => csum (dot g j) 8) n + csum (dot g n) 8 = ((sc.cnt g 0 0 n + sc.some_ g 0 (0 + (n : Nat)) 8 : Nat) : Int)
    rw [ih, dot_some, Int.zero_add]
    push_cast
    rfl
theorem csum_rows (g : Int) (F : Nat → Int) (W a : Nat) (hW : W = 8 * a) (H : Nat) (hF : ∀ j i, j < H → i < W → F (j * W + i) = dot g j i) (j : Nat) (hj : j ≤ H) : csum F (j * W) = (a : Int) * csum (fun j => csum (dot g j) 8) j := by
  induction j with
  | zero => simp [csum]
  | succ j ih =>
    rw [Nat.add_mul, Nat.one_mul, csum_add, ih (by omega), csum_ext _ (dot g j) W (fun t ht => hF j t (by omega) ht)]
    show _ = (a : Int) * (csum (fun j => csum (dot g j) 8) j + csum (dot g j) 8)
    rw [hW, csum_period _ (fun k t => dot_period g j k t), Int.mul_add]
theorem flat_count (g : Int) (h0 : 0 ≤ g) (h1 : g ≤ 255) (F : Nat → Int) (W H a b : Nat) (hW : W = 8 * a) (hH : H = 8 * b) (hF : ∀ j i, j < H → i < W → F (j * W + i) = dot g j i) : csum F (W * H) = ((a * b : Nat) : Int) * (64 - (g + 2) / 4) := by
  rw [Nat.mul_comm W H, csum_rows g F W a hW H hF H (Nat.le_refl _)]
  rw [hH, csum_period (fun j => csum (dot g j) 8) (fun k t => by
    refine csum_ext _ _ 8 fun i _ => dot_rows g k t i), dot_cnt, sc.cnt_is g 0 0 h0 h1]
  push_cast
  rw [Int.mul_assoc]
theorem bitF_flat (W : Nat) (g : Int) (B : Nat → Int) (N : Nat) (hB : ∀ j, j < N → B j = g) (j i : Nat) (hi : i < W) (hk : 3 * (j * W + i) + 3 ≤ N) : bitF W B (j * W + i) = dot g j i := by
  obtain ⟨e1, e2⟩ := pix_of (j := j) hi
  unfold bitF dot
  rw [hB _ (by omega), hB _ (by omega), hB _ (by omega)]
  have e3 : sc.grey g g g = g := by unfold sc.grey; omega
  have e4 : ((j * W + i : Nat) : Int) % (W : Int) = (i : Int) := by rw [← Int.natCast_emod, e2]
  have e5 : ((j * W + i : Nat) : Int) / (W : Int) = (j : Int) := by rw [← Int.natCast_ediv, e1]
  rw [e3, e4, e5]
theorem put_flat (W : Nat) (g : Int) (hg : 0 ≤ g ∧ g ≤ 255) (j : Nat) : putB W (fun _ _ => true) g g g 255 (fun _ => 255) j = g := by
  unfold putB
  rw [if_pos rfl]
  have e : chan g g g (j % 3) = g := by unfold chan; (repeat' split) <;> rfl
  rw [e]
  exact blend_all _ _ (show (0 : Int) ≤ 255 ∧ (255 : Int) ≤ 255 by decide) hg
set_option maxRecDepth 100000 in
set_option maxHeartbeats 12800000 in
theorem flat_law (g x y : Int) (w : World) (hg : 0 ≤ g ∧ g ≤ 255) (_hx : -9223372036854775808 ≤ x ∧ x ≤ 9223372036854775807) (_hy : -9223372036854775808 ≤ y ∧ y ≤ 9223372036854775807) :
    Calls Try.prog 9 #[.int .u8 g, .int .i64 x, .int .i64 y] w fun ed w' => ed = .returned (.bool true) ∧ Below w.heap.size w w' := by
  have hPX := fun W => place_any x 4 W (by decide) (by decide)
  have hPY := fun W => place_any y 3 W (by decide) (by decide)
  have hx0 := Int.emod_nonneg x (show (4 : Int) ≠ 0 by omega)
  have hx1 := Int.emod_lt_of_pos x (show (0 : Int) < 4 by omega)
  have hy0 := Int.emod_nonneg y (show (3 : Int) ≠ 0 by omega)
  have hy1 := Int.emod_lt_of_pos y (show (0 : Int) < 3 by omega)
  obtain ⟨zx, hzx⟩ : ∃ z, x % 4 = z := ⟨_, rfl⟩
  obtain ⟨zy, hzy⟩ : ∃ z, y % 3 = z := ⟨_, rfl⟩
  rw [hzx] at hPX hx0 hx1
  rw [hzy] at hPY hy0 hy1
  have HPX := Lib.hid hPX
  have HPY := Lib.hid hPY
  obtain ⟨a, ha⟩ : ∃ a : Nat, 1 + zx = (a : Int) := ⟨(1 + zx).toNat, by omega⟩
  obtain ⟨b, hb⟩ : ∃ b : Nat, 1 + zy = (b : Int) := ⟨(1 + zy).toNat, by omega⟩
  have ha2 : 1 ≤ a ∧ a ≤ 4 := by omega
  have hb2 : 1 ≤ b ∧ b ≤ 3 := by omega
  obtain ⟨W, hWa⟩ : ∃ W, W = 8 * a := ⟨_, rfl⟩
  obtain ⟨H, hHb⟩ : ∃ H, H = 8 * b := ⟨_, rfl⟩
  have hW : 1 ≤ W ∧ W ≤ 64 := by omega
  have hH : 1 ≤ H ∧ H ≤ 64 := by omega
  have HXW := Lib.hid (show 8 * (1 + zx) = (W : Int) by omega)
  have HYH := Lib.hid (show 8 * (1 + zy) = (H : Int) by omega)
  obtain ⟨q, hq⟩ : ∃ q, W * H = q := ⟨_, rfl⟩
  obtain ⟨N, hN⟩ : ∃ N, N = 3 * (W * H) := ⟨_, rfl⟩
  obtain ⟨p, hp⟩ : ∃ p, a * b = p := ⟨_, rfl⟩
  have hqp : q = 64 * p := by
    rw [← hq, ← hp, hWa, hHb, Nat.mul_mul_mul_comm]
  have hq9 : q ≤ 4096 := by rw [← hq]; exact Nat.mul_le_mul hW.2 hH.2
  have hp9 : p ≤ 64 := by omega
  obtain ⟨t, ht⟩ : ∃ t, (g + 2) / 4 = t := ⟨_, rfl⟩
  have ht1 : 0 ≤ t ∧ t ≤ 64 := by omega
  have hmul : (W : Int) * (H : Int) = (q : Int) := by rw [← hq]; push_cast; rfl
  have hd1 : (q : Int).tdiv 64 = (p : Int) := by rw [Int.tdiv_eq_ediv_of_nonneg (by omega)]; omega
  have hd2 : (g + 2).tdiv 4 = t := by rw [Int.tdiv_eq_ediv_of_nonneg (by omega), ht]
  obtain ⟨T, hT⟩ : ∃ T, (p : Int) * (64 - t) = T := ⟨_, rfl⟩
  have hT2 : 0 ≤ T ∧ T ≤ 4096 := by
    rw [← hT]
    have h1 : (p : Int) * (64 - t) ≤ (p : Int) * 64 := Int.mul_le_mul_of_nonneg_left (by omega) (by omega)
    exact ⟨Int.mul_nonneg (by omega) (by omega), by omega⟩
  have hcount : ∀ B : Nat → Int, (∀ j, j < N → B j = g) → csum (bitF W B) q = T := fun B hB => by
    rw [← hq, flat_count g hg.1 hg.2 (bitF W B) W H a b hWa hHb (fun j i hj hi => bitF_flat W g B N hB j i hi (by rw [hN]; exact pix_in hj hi)), hp, ht, hT]
  have HNW := Lib.hid (fun W' => new_pg W H N W' hW hH hN)
  have HAL := Lib.hid (fun W' => rall_any W H W' hW hH)
  have HPU := Lib.hid (fun c d A D R B W' hp hr => put_any W H N c d A D R g g g 255 B W' hW hH hN hg hg hg ⟨by omega, by omega⟩ hp hr)
  have HBI := Lib.hid (fun c A B W' hp => sbits_any W H N c q A B W' hW hH hN hq hp)
  have HCO := Lib.hid (fun c A (B : Nat → Int) W' hp (hB : ∀ j, j < N → B j = g) => hcount B hB ▸ ccount_any W H q c A (bitF W B) W' hW hH hq.symm hp (fun j _ => bitF_two W B j))
  have HPF := Lib.hid (fun j => put_flat W g hg j)
  have HX4 := Lib.hid hmul
  obtain ⟨hg0, hg1⟩ := hg
  obtain ⟨ht10, ht11⟩ := ht1
  obtain ⟨hT20, hT21⟩ := hT2
  clear hcount hPX hPY hzx hzy hN hq hqp hWa hHb ha hb hp ht _hx _hy hW hH
  go_enter Try.func9, Try.ntmps9
  go_wp2_with fail
  have hst0 : Below w.heap.size w w := by (repeat' (first | exact Below.refl _ _ | exact Below.refl _ _ | refine balloc ?_ _ | refine Below.drew ?_ | refine below_drewN ?_ _ | refine bset ?_ (by first | omega | (simp <;> omega)) _))
  refine (sc.known_any _).mono ?_
  rintro e_ w1 ⟨rfl, hb⟩
  have hst : Below w.heap.size w w1 := btrans hst0 hb
  have hbw : Below w.heap.size w w1 := hst
  clear hst hst0 hb 
  go_wp2_with fail
  refine (HPX.out _).mono ?_
  rintro e_ w_ ⟨rfl, rfl⟩
  go_wp2_with fail
  refine (HPY.out _).mono ?_
  rintro e_ w_ ⟨rfl, rfl⟩
  go_wp2_with fail
  rw [HXW.out, HYH.out]
  clear hx0 hx1 hy0 hy1
  have hst0 : Below w1.heap.size w1 w1 := by (repeat' (first | exact Below.refl _ _ | exact Below.refl _ _ | refine balloc ?_ _ | refine Below.drew ?_ | refine below_drewN ?_ _ | refine bset ?_ (by first | omega | (simp <;> omega)) _))
  refine (HNW.out _).mono ?_
  rintro e_ w2 ⟨b1, o1, c1, rfl, hP, hb⟩
  have hst : Below w1.heap.size w1 w2 := btrans hst0 hb
  replace hbw : Below w.heap.size w w2 := btrans hbw hst
  clear hst hst0 hb 
  have HhP := Lib.hid hP
  clear hP
  go_wp2_with fail
  have hst0 : Below w2.heap.size w2 (w2.alloc (.cells #[.int .i64 (W : Int), .int .i64 (H : Int), .slice (some ⟨b1, o1, none⟩) N c1] 34)) := by (repeat' (first | exact Below.refl _ _ | exact Below.refl _ _ | refine balloc ?_ _ | refine Below.drew ?_ | refine below_drewN ?_ _ | refine bset ?_ (by first | omega | (simp <;> omega)) _))
  refine (HAL.out _).mono ?_
  rintro e_ w3 ⟨gA, hgA, rfl, qA, hb⟩
  clear hgA
  have hst : Below w2.heap.size w2 w3 := btrans hst0 hb
  have Kp := (Blk.new w2 34 #[.int .i64 (W : Int), .int .i64 (H : Int), .slice (some ⟨b1, o1, none⟩) N c1])
  replace Kp := Kp.below hb Kp.lt
  replace hbw : Below w.heap.size w w3 := btrans hbw hst
  replace HhP := Lib.hid (HhP.out.below hst)
  clear hst hst0 hb 
  have HqA := Lib.hid qA
  clear qA
  have lKp := Kp.lt
  have cKp0 := Kp.cell 0
  have cKp1 := Kp.cell 1
  have cKp2 := Kp.cell 2
  simp only [List.getElem?_toArray, List.getElem?_cons_succ, List.getElem?_cons_zero] at cKp0 cKp1 cKp2
  go_wp2_with fail
  have hst0 : Below w3.heap.size w3 (w3.alloc (.cells #[.int .i64 (W : Int), .int .i64 (H : Int), .slice (some ⟨gA, 0, none⟩) H H] 50)) := by (repeat' (first | exact Below.refl _ _ | exact Below.refl _ _ | refine balloc ?_ _ | refine Below.drew ?_ | refine below_drewN ?_ _ | refine bset ?_ (by first | omega | (simp <;> omega)) _))
  refine (HPU.out _ _ _ _ _ _ _ (HhP.out.below hst0) (HqA.out.below hst0)).mono ?_
  rintro e_ w4 ⟨gd, fd, hgd, rfl, qd, hb⟩
  clear hgd
  have hst : Below w3.heap.size w3 w4 := btrans hst0 hb
  replace Kp := (Kp.alloc (.cells #[.int .i64 (W : Int), .int .i64 (H : Int), .slice (some ⟨gA, 0, none⟩) H H] 50))
  have KA := (Blk.new w3 50 #[.int .i64 (W : Int), .int .i64 (H : Int), .slice (some ⟨gA, 0, none⟩) H H])
  replace Kp := Kp.below hb Kp.lt
  replace KA := KA.below hb KA.lt
  replace hbw : Below w.heap.size w w4 := btrans hbw hst
  replace HhP := Lib.hid (HhP.out.below hst)
  replace HqA := Lib.hid (HqA.out.below hst)
  clear hst hst0 hb lKp cKp0 cKp1 cKp2
  have Hqd := Lib.hid qd
  clear qd
  have lKp := Kp.lt
  have cKp0 := Kp.cell 0
  have cKp1 := Kp.cell 1
  have cKp2 := Kp.cell 2
  have lKA := KA.lt
  have cKA0 := KA.cell 0
  have cKA1 := KA.cell 1
  have cKA2 := KA.cell 2
  simp only [List.getElem?_toArray, List.getElem?_cons_succ, List.getElem?_cons_zero] at cKp0 cKp1 cKp2 cKA0 cKA1 cKA2
  go_wp2_with fail
  have hst0 : Below w4.heap.size w4 (w4.alloc (.cells #[.int .i64 (W : Int), .int .i64 (H : Int), .slice (some ⟨gd, 0, none⟩) N fd] 34)) := by (repeat' (first | exact Below.refl _ _ | exact Below.refl _ _ | refine balloc ?_ _ | refine Below.drew ?_ | refine below_drewN ?_ _ | refine bset ?_ (by first | omega | (simp <;> omega)) _))
  refine (HBI.out _ _ _ _ (Hqd.out.below hst0)).mono ?_
  rintro e_ w5 ⟨ge, rfl, qe, hb⟩
  have hst : Below w4.heap.size w4 w5 := btrans hst0 hb
  replace Kp := (Kp.alloc (.cells #[.int .i64 (W : Int), .int .i64 (H : Int), .slice (some ⟨gd, 0, none⟩) N fd] 34))
  replace KA := (KA.alloc (.cells #[.int .i64 (W : Int), .int .i64 (H : Int), .slice (some ⟨gd, 0, none⟩) N fd] 34))
  have Kd := (Blk.new w4 34 #[.int .i64 (W : Int), .int .i64 (H : Int), .slice (some ⟨gd, 0, none⟩) N fd])
  replace Kp := Kp.below hb Kp.lt
  replace KA := KA.below hb KA.lt
  replace Kd := Kd.below hb Kd.lt
  replace hbw : Below w.heap.size w w5 := btrans hbw hst
  replace HhP := Lib.hid (HhP.out.below hst)
  replace HqA := Lib.hid (HqA.out.below hst)
  replace Hqd := Lib.hid (Hqd.out.below hst)
  clear hst hst0 hb lKp cKp0 cKp1 cKp2 lKA cKA0 cKA1 cKA2
  have Hqe := Lib.hid qe
  clear qe
  have lKp := Kp.lt
  have cKp0 := Kp.cell 0
  have cKp1 := Kp.cell 1
  have cKp2 := Kp.cell 2
  have lKA := KA.lt
  have cKA0 := KA.cell 0
  have cKA1 := KA.cell 1
  have cKA2 := KA.cell 2
  have lKd := Kd.lt
  have cKd0 := Kd.cell 0
  have cKd1 := Kd.cell 1
  have cKd2 := Kd.cell 2
  simp only [List.getElem?_toArray, List.getElem?_cons_succ, List.getElem?_cons_zero] at cKp0 cKp1 cKp2 cKA0 cKA1 cKA2 cKd0 cKd1 cKd2
  go_wp2_with fail
  have hst0 : Below w5.heap.size w5 (w5.alloc (.cells #[.int .i64 (W : Int), .int .i64 (H : Int), .slice (some ⟨ge, 0, none⟩) q q] 36)) := by (repeat' (first | exact Below.refl _ _ | exact Below.refl _ _ | refine balloc ?_ _ | refine Below.drew ?_ | refine below_drewN ?_ _ | refine bset ?_ (by first | omega | (simp <;> omega)) _))
  refine (HCO.out _ _ _ _ (Hqe.out.below hst0) (fun j _ => HPF.out j)).mono ?_
  rintro e_ w6 ⟨rfl, hb⟩
  have hst : Below w5.heap.size w5 w6 := btrans hst0 hb
  replace Kp := (Kp.alloc (.cells #[.int .i64 (W : Int), .int .i64 (H : Int), .slice (some ⟨ge, 0, none⟩) q q] 36))
  replace KA := (KA.alloc (.cells #[.int .i64 (W : Int), .int .i64 (H : Int), .slice (some ⟨ge, 0, none⟩) q q] 36))
  replace Kd := (Kd.alloc (.cells #[.int .i64 (W : Int), .int .i64 (H : Int), .slice (some ⟨ge, 0, none⟩) q q] 36))
  have Ke := (Blk.new w5 36 #[.int .i64 (W : Int), .int .i64 (H : Int), .slice (some ⟨ge, 0, none⟩) q q])
  replace Kp := Kp.below hb Kp.lt
  replace KA := KA.below hb KA.lt
  replace Kd := Kd.below hb Kd.lt
  replace Ke := Ke.below hb Ke.lt
  replace hbw : Below w.heap.size w w6 := btrans hbw hst
  replace HhP := Lib.hid (HhP.out.below hst)
  replace HqA := Lib.hid (HqA.out.below hst)
  replace Hqd := Lib.hid (Hqd.out.below hst)
  replace Hqe := Lib.hid (Hqe.out.below hst)
  clear hst hst0 hb lKp cKp0 cKp1 cKp2 lKA cKA0 cKA1 cKA2 lKd cKd0 cKd1 cKd2
  have lKp := Kp.lt
  have cKp0 := Kp.cell 0
  have cKp1 := Kp.cell 1
  have cKp2 := Kp.cell 2
  have lKA := KA.lt
  have cKA0 := KA.cell 0
  have cKA1 := KA.cell 1
  have cKA2 := KA.cell 2
  have lKd := Kd.lt
  have cKd0 := Kd.cell 0
  have cKd1 := Kd.cell 1
  have cKd2 := Kd.cell 2
  have lKe := Ke.lt
  have cKe0 := Ke.cell 0
  have cKe1 := Ke.cell 1
  have cKe2 := Ke.cell 2
  simp only [List.getElem?_toArray, List.getElem?_cons_succ, List.getElem?_cons_zero] at cKp0 cKp1 cKp2 cKA0 cKA1 cKA2 cKd0 cKd1 cKd2 cKe0 cKe1 cKe2
  go_wp2_with fail
  go_ret
  exact ⟨ret_bool (by simp), hbw⟩
end Go.Proofs.Ytodeebaogpepkaa.rg
