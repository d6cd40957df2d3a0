/-
  Lemmas for ImageTiles: LawITiles.
-/
import Derived.BigRegion
import Derived.Test.YtegpjjkbbdfggaaImageTilesM1

/-
  ImageTiles: an image divided between two columns, and painted as two images side by side, is the image.
-/
namespace Go.Proofs.Ytegpjjkbbdfggaa.im
set_option linter.unusedVariables false
set_option linter.unusedSimpArgs false
open Go.RowKit bs op rg mt

theorem tile_rw (W : Int) (h : 0 ≤ W) : rowI W 8 = W := by unfold rowI; omega
theorem tile_samp (s s' : ByteArray) (W W' H f x y : Int) (hW : 0 ≤ W) (hW' : 0 ≤ W') (hin : inB W' H (x - f) y = true) (hin2 : inB W H x y = true) (hg : s'[(y * W' + (x - f)).toNat]? = s[(y * W + x).toNat]?) :
    sampV W' H 8 s' (x - f) y = sampV W H 8 s x y := by
  unfold sampV byteAt
  rw [if_pos hin, if_pos hin2, tile_rw W hW, tile_rw W' hW', show (x - f) * 8 / 8 = x - f by omega, show x * 8 / 8 = x by omega, hg, show (x - f) * 8 % 8 = 0 by omega, show x * 8 % 8 = 0 by omega]
theorem downI_sub (N c det : Int) (h : det ≠ 0) : downI (N - c * det) det = downI N det - c := by
  unfold downI
  split
  · rw [show -(N - c * det) = -N + c * det by omega, show -N + c * det = -N + (-c) * (-det) by rw [Int.neg_mul_neg], Int.add_mul_ediv_right _ _ (by omega)]
    omega
  · rw [show N - c * det = N + (-c) * det by rw [Int.neg_mul]; omega, Int.add_mul_ediv_right _ _ h]
    omega
theorem tile_px (w : Nat) (S1 S2 S : Nat → Nat → Int) (G : Int → Int) (Y : Nat → Int) (h : ∀ j i : Nat, (S1 j i = -1 ∧ S2 j i = -1 ∧ S j i = -1) ∨ (S1 j i = S j i ∧ S2 j i = -1) ∨ (S2 j i = S j i ∧ S1 j i = -1)) (t : Nat) :
    paintB w (fun _ _ => true) S2 G (paintB w (fun _ _ => true) S1 G Y) t = paintB w (fun _ _ => true) S G Y t := by
  unfold paintB
  rcases h (t / 3 / w) (t / 3 % w) with ⟨h1, h2, h3⟩ | ⟨h1, h2⟩ | ⟨h1, h2⟩
  · rw [h1, h2, h3]; simp
  · rw [h1, h2]; simp
  · rw [h1, h2]; simp
theorem tile_get (s : ByteArray) (W H f t : Nat) (hft : f ≤ t) (htW : t ≤ W) (hs : s.size = H * W) (x y : Int) (hx : (f : Int) ≤ x) (hx1 : x < (t : Int)) (hy : 0 ≤ y) (hy1 : y < (H : Int)) :
    (partA s W f t H)[(y * ((t : Int) - (f : Int)) + (x - (f : Int))).toNat]? = s[(y * (W : Int) + x).toNat]? := by
  obtain ⟨yn, rfl⟩ := Int.eq_ofNat_of_zero_le hy
  obtain ⟨xn, hxn⟩ := Int.eq_ofNat_of_zero_le (show 0 ≤ x - (f : Int) by omega)
  have h := partA_get s W f t hft htW xn (by omega) H (by rw [hs, Nat.mul_comm]; exact Nat.le_refl _) yn (by omega)
  have e1 : ((yn : Int) * ((t : Int) - (f : Int)) + (x - (f : Int))).toNat = yn * (t - f) + xn := by
    rw [hxn, show (t : Int) - (f : Int) = ((t - f : Nat) : Int) by omega]
    norm_cast
  have e2 : ((yn : Int) * (W : Int) + x).toNat = W * yn + f + xn := by
    rw [show x = ((f + xn : Nat) : Int) by omega, Int.mul_comm]
    norm_cast
    omega
  rw [e1, e2, h]
theorem tile_at (W H c : Nat) (s : ByteArray) (A B C D E F x y n1 n2 : Int) (hc : c ≤ W) (hs : s.size = H * W) (h1 : (c : Int) - ((0 : Nat) : Int) = n1) (h2 : (W : Int) - (c : Int) = n2) :
    (atV n1 H 8 (partA s W 0 c H) A B C D E F x y = -1 ∧ atV n2 H 8 (partA s W c W H) A B C D (E + c * A) (F + c * B) x y = -1 ∧ atV W H 8 s A B C D E F x y = -1) ∨
    (atV n1 H 8 (partA s W 0 c H) A B C D E F x y = atV W H 8 s A B C D E F x y ∧ atV n2 H 8 (partA s W c W H) A B C D (E + c * A) (F + c * B) x y = -1) ∨
    (atV n2 H 8 (partA s W c W H) A B C D (E + c * A) (F + c * B) x y = atV W H 8 s A B C D E F x y ∧ atV n1 H 8 (partA s W 0 c H) A B C D E F x y = -1) := by
  unfold atV
  by_cases hd : A * D - B * C = 0 ∨ coordB x y = false
  · rw [if_pos hd, if_pos hd, if_pos hd]
    exact .inl ⟨rfl, rfl, rfl⟩
  · rw [if_neg hd, if_neg hd, if_neg hd]
    have hdet : A * D - B * C ≠ 0 := fun h => hd (.inl h)
    have k1 := Int.mul_comm D (x * 65536 - (E + c * A))
    have e1 : D * (x * 65536 - (E + c * A)) - C * (y * 65536 - (F + c * B)) = (D * (x * 65536 - E) - C * (y * 65536 - F)) - c * (A * D - B * C) := by
      have a1 : D * (c * A) = c * (A * D) := by rw [Int.mul_left_comm, Int.mul_comm D A]
      have a2 : C * (c * B) = c * (B * C) := by rw [Int.mul_left_comm, Int.mul_comm C B]
      simp only [Int.mul_sub, Int.mul_add, a1, a2]
      omega
    have e2 : A * (y * 65536 - (F + c * B)) - B * (x * 65536 - (E + c * A)) = A * (y * 65536 - F) - B * (x * 65536 - E) := by
      have a1 : A * (c * B) = c * (A * B) := by rw [Int.mul_left_comm]
      have a2 : B * (c * A) = c * (A * B) := by rw [Int.mul_left_comm, Int.mul_comm B A]
      simp only [Int.mul_sub, Int.mul_add, a1, a2]
      omega
    rw [e1, e2, downI_sub _ _ _ hdet]
    generalize downI (D * (x * 65536 - E) - C * (y * 65536 - F)) (A * D - B * C) = X
    generalize downI (A * (y * 65536 - F) - B * (x * 65536 - E)) (A * D - B * C) = Y
    have out : ∀ (W' H' X' Y' : Int) (s' : ByteArray), ¬ (0 ≤ X' ∧ X' < W' ∧ 0 ≤ Y' ∧ Y' < H') → sampV W' H' 8 s' X' Y' = -1 := fun W' H' X' Y' s' h => by
      unfold sampV
      rw [if_neg]
      intro h2
      obtain ⟨h3, h4⟩ := inB_true h2
      exact h ⟨h3.1, h3.2, h4.1, h4.2⟩
    have inn : ∀ (W' H' X' Y' : Int), 0 ≤ X' → X' < W' → 0 ≤ Y' → Y' < H' → inB W' H' X' Y' = true := fun W' H' X' Y' a b c d => by
      unfold inB
      simp only [Bool.and_eq_true, decide_eq_true_eq]
      exact ⟨⟨⟨a, b⟩, c⟩, d⟩
    by_cases hY : 0 ≤ Y ∧ Y < (H : Int)
    · by_cases hX : 0 ≤ X ∧ X < (W : Int)
      · by_cases hXc : X < (c : Int)
        · refine .inr (.inl ⟨?_, out _ _ _ _ _ (by omega)⟩)
          have := tile_samp s (partA s W 0 c H) W n1 H 0 X Y (by omega) (by omega) (inn _ _ _ _ (by omega) (by omega) hY.1 hY.2) (inn _ _ _ _ hX.1 hX.2 hY.1 hY.2) (by
            rw [← h1]; exact tile_get s W H 0 c (by omega) hc hs X Y hX.1 hXc hY.1 hY.2)
          rw [Int.sub_zero] at this
          exact this
        · refine .inr (.inr ⟨?_, out _ _ _ _ _ (by omega)⟩)
          exact tile_samp s (partA s W c W H) W n2 H c X Y (by omega) (by omega) (inn _ _ _ _ (by omega) (by omega) hY.1 hY.2) (inn _ _ _ _ hX.1 hX.2 hY.1 hY.2) (by
            rw [← h2]; exact tile_get s W H c W hc (Nat.le_refl _) hs X Y (by omega) hX.2 hY.1 hY.2)
      · exact .inl ⟨out _ _ _ _ _ (by omega), out _ _ _ _ _ (by omega), out _ _ _ _ _ (by omega)⟩
    · exact .inl ⟨out _ _ _ _ _ (by omega), out _ _ _ _ _ (by omega), out _ _ _ _ _ (by omega)⟩

set_option maxRecDepth 100000 in
set_option maxHeartbeats 3200000 in
theorem itiles_short (A : Option Addr) (n cap : Nat) (ns : Nat → Int) (A2 : Option Addr) (n2_ cap2 : Nat) (ns2 : Nat → Int) (at_ dx dy : Int) (A3 : Option Addr) (n3 cap3 : Nat) (ns3 : Nat → Int) (W H : Nat) (s : ByteArray) (w : World) (hr : Ints w A n cap ns) (hr3 : Ints w A3 n3 cap3 ns3) (hn3 : n3 ≤ 9223372036854775807) (HMd : Hid (∀ W', Ints W' A n cap ns → Calls Try.prog 23 #[.slice A n cap, .int .i64 3] W' fun ed w' => ed = .returned (.agg #[.int .i64 (W : Int), .int .i64 (H : Int), .int .i64 8, .string s]) ∧ Below W'.heap.size W' w')) (hW : W < 2) :
    Calls Try.prog 5 #[.slice A n cap, .slice A2 n2_ cap2, .int .i64 at_, .int .i64 dx, .int .i64 dy, .slice A3 n3 cap3] w fun ed w' => ed = .returned (.bool true) ∧ Below w.heap.size w w' := by
  obtain ⟨N, hN⟩ : ∃ N, N = 3 * (12 * 11) := ⟨_, rfl⟩
  have HPG := Lib.hid (fun W' h => lpage_any A3 n3 cap3 ns3 12 11 N W' h hn3 (by decide) (by decide) hN)
  have d1 : decide ((W : Int) < 2) = true := by simp; omega
  have HI1 := Lib.hid hr
  have HI3 := Lib.hid hr3
  clear hN hr hr3 hn3
  go_enter Try.func5, Try.ntmps5
  go_wp2_with fail
  have hst0 : Below w.heap.size w w := by (repeat' (first | exact Below.refl _ _ | exact Below.refl _ _ | refine balloc ?_ _ | refine Below.drew ?_ | refine below_drewN ?_ _ | refine bset ?_ (by first | omega | (simp <;> omega)) _))
  refine (known_any _).mono ?_
  rintro e_ w1 ⟨rfl, hb⟩
  have hst : Below w.heap.size w w1 := btrans hst0 hb
  have hbw : Below w.heap.size w w1 := hst
  replace HI1 := Lib.hid (HI1.out.below hst)
  replace HI3 := Lib.hid (HI3.out.below hst)
  clear hst hst0 hb 
  go_wp2_with fail
  have hst0 : Below w1.heap.size w1 w1 := by (repeat' (first | exact Below.refl _ _ | exact Below.refl _ _ | refine balloc ?_ _ | refine Below.drew ?_ | refine below_drewN ?_ _ | refine bset ?_ (by first | omega | (simp <;> omega)) _))
  refine (HMd.out _ (HI1.out.below hst0)).mono ?_
  rintro e_ w2 ⟨rfl, hb⟩
  have hst : Below w1.heap.size w1 w2 := btrans hst0 hb
  replace hbw : Below w.heap.size w w2 := btrans hbw hst
  replace HI1 := Lib.hid (HI1.out.below hst)
  replace HI3 := Lib.hid (HI3.out.below hst)
  clear hst hst0 hb 
  go_wp2_with fail
  have hst0 : Below w2.heap.size w2 w2 := by (repeat' (first | exact Below.refl _ _ | exact Below.refl _ _ | refine balloc ?_ _ | refine Below.drew ?_ | refine below_drewN ?_ _ | refine bset ?_ (by first | omega | (simp <;> omega)) _))
  refine (HPG.out _ (HI3.out.below hst0)).mono ?_
  rintro e_ w3 ⟨gp, Y, rfl, hP, hb⟩
  have hst : Below w2.heap.size w2 w3 := btrans hst0 hb
  replace hbw : Below w.heap.size w w3 := btrans hbw hst
  replace HI1 := Lib.hid (HI1.out.below hst)
  replace HI3 := Lib.hid (HI3.out.below hst)
  clear hst hst0 hb 
  have HhP := Lib.hid hP
  clear hP
  go_wp2_with fail
  go_ret
  exact ⟨rfl, by (repeat' (first | refine bset ?_ (by first | omega | (simp <;> omega)) _ | refine balloc ?_ _ | refine Below.drew ?_ | refine below_drewN ?_ _ | exact hbw | exact Below.refl _ _))⟩

set_option maxRecDepth 100000 in
set_option maxHeartbeats 3200000 in
theorem itiles_walk (A : Option Addr) (n cap : Nat) (ns : Nat → Int) (A2 : Option Addr) (n2_ cap2 : Nat) (ns2 : Nat → Int) (at_ dx dy : Int) (A3 : Option Addr) (n3 cap3 : Nat) (ns3 : Nat → Int) (W H c : Nat) (s : ByteArray) (w : World) (hr : Ints w A n cap ns) (hr2 : Ints w A2 n2_ cap2 ns2) (hr3 : Ints w A3 n3 cap3 ns3) (hn3 : n3 ≤ 9223372036854775807) (HMd : Hid (∀ W', Ints W' A n cap ns → Calls Try.prog 23 #[.slice A n cap, .int .i64 3] W' fun ed w' => ed = .returned (.agg #[.int .i64 (W : Int), .int .i64 (H : Int), .int .i64 8, .string s]) ∧ Below W'.heap.size W' w'))
    (ta tb tc td ex ey pc n1 n2 a b c0 d e f ca cb : Int) (ta0 : -5308416 ≤ ta) (ta1 : ta ≤ 5308416) (tb0 : -5308416 ≤ tb) (tb1 : tb ≤ 5308416) (tc0 : -5308416 ≤ tc) (tc1 : tc ≤ 5308416) (td0 : -5308416 ≤ td) (td1 : td ≤ 5308416) (hex0 : 0 ≤ ex) (hex1 : ex ≤ 200) (hey0 : 0 ≤ ey) (hey1 : ey ≤ 200) (hpc0 : 0 ≤ pc) (hpc1 : pc ≤ 9)
    (HUn : Hid (∀ W', Ints W' A2 n2_ cap2 ns2 → Calls Try.prog 29 #[.slice A2 n2_ cap2] W' fun ed w' => ed = .returned (.agg #[.int .i64 ta, .int .i64 tb, .int .i64 tc, .int .i64 td, .int .i64 0, .int .i64 0]) ∧ Below W'.heap.size W' w'))
    (HPL : Hid (∀ W', Calls Try.prog 25 #[.int .i64 at_, .int .i64 ((W : Int) - 1)] W' fun ed w' => ed = .returned (.int .i64 pc) ∧ W' = w'))
    (HPX : Hid (∀ W', Calls Try.prog 25 #[.int .i64 dx, .int .i64 200] W' fun ed w' => ed = .returned (.int .i64 ex) ∧ Below W'.heap.size W' w'))
    (HPY : Hid (∀ W', Calls Try.prog 25 #[.int .i64 dy, .int .i64 200] W' fun ed w' => ed = .returned (.int .i64 ey) ∧ Below W'.heap.size W' w'))
    (hpc : 1 + pc = (c : Int)) (qa : 8 * ta = a) (qb : 8 * tb = b) (qc : 8 * tc = c0) (qd : 8 * td = d) (qe : (ex - 50) * 65536 = e) (qf : (ey - 50) * 65536 = f) (qca : (c : Int) * a = ca) (qcb : (c : Int) * b = cb)
    (ca0 : -400000000 ≤ ca) (ca1 : ca ≤ 400000000) (cb0 : -400000000 ≤ cb) (cb1 : cb ≤ 400000000) (hW : 2 ≤ W) (hW9 : W ≤ 9) (hH1 : 1 ≤ H) (hH9 : H ≤ 9) (hc1 : 1 ≤ c) (hcW : c < W) (hs : s.size = H * W) (h1 : (c : Int) - ((0 : Nat) : Int) = n1) (h2 : (W : Int) - (c : Int) = n2) (hdet : ¬ a * d - b * c0 = 0) :
    Calls Try.prog 5 #[.slice A n cap, .slice A2 n2_ cap2, .int .i64 at_, .int .i64 dx, .int .i64 dy, .slice A3 n3 cap3] w fun ed w' => ed = .returned (.bool true) ∧ Below w.heap.size w w' := by
  obtain ⟨N, hN⟩ : ∃ N, N = 3 * (12 * 11) := ⟨_, rfl⟩
  have HNP := Lib.hid (show 0 < N by rw [hN]; decide)
  have HPG := Lib.hid (fun W' h => lpage_any A3 n3 cap3 ns3 12 11 N W' h hn3 (by decide) (by decide) hN)
  have HAL := Lib.hid (fun W' => rall_any 12 11 W' (by decide) (by decide))
  have may8 : ∀ (v : Int) (x : ByteArray) (m : Nat), v = (m : Int) → 1 ≤ m → m ≤ 9 → x.size = H * m → mayI v H 8 x.size = true := fun v x m e h1 h2 h3 => by
    subst e
    unfold mayI sidesB bitsB
    rw [h3, tile_rw _ (by omega)]
    push_cast
    simp
    omega
  have hz1 : (partA s W 0 c H).size = H * c := partA_size s W 0 c (by omega) (by omega) H (by rw [hs, Nat.mul_comm]; exact Nat.le_refl _)
  have hz2 : (partA s W c W H).size = H * (W - c) := partA_size s W c W (by omega) (by omega) H (by rw [hs, Nat.mul_comm]; exact Nat.le_refl _)
  have hm0 := may8 (W : Int) s W rfl (by omega) hW9 hs
  have hm1 := may8 n1 (partA s W 0 c H) c (by omega) hc1 (by omega) hz1
  have hm2 := may8 n2 (partA s W c W H) (W - c) (by omega) (by omega) (by omega) hz2
  have hmt : mt.mayB a b c0 d e f = true := by
    unfold mayB
    rw [fixB_true (by omega), fixB_true (by omega), fixB_true (by omega), fixB_true (by omega), fixB_true (by omega), fixB_true (by omega)]
    rfl
  have hms : mt.mayB a b c0 d (e + ca) (f + cb) = true := by
    unfold mayB
    rw [fixB_true (by omega), fixB_true (by omega), fixB_true (by omega), fixB_true (by omega), fixB_true (by omega), fixB_true (by omega)]
    rfl
  have HP0 := Lib.hid (fun cp dr A D R Y W' hp hr => paint_any (W : Int) H 8 a b c0 d e f _ s 12 11 N cp dr A D R Y W' (by decide) (by decide) hN (may_size hm0) hm0 hmt rfl hdet hp hr)
  have HP1 := Lib.hid (fun cp dr A D R Y W' hp hr => paint_any n1 H 8 a b c0 d e f _ (partA s W 0 c H) 12 11 N cp dr A D R Y W' (by decide) (by decide) hN (may_size hm1) hm1 hmt rfl hdet hp hr)
  have HP2 := Lib.hid (fun cp dr A D R Y W' hp hr => paint_any n2 H 8 a b c0 d (e + ca) (f + cb) _ (partA s W c W H) 12 11 N cp dr A D R Y W' (by decide) (by decide) hN (may_size hm2) hm2 hms rfl hdet hp hr)
  have HC1 := Lib.hid (fun W' => show Calls Try.prog 32 #[.agg #[.int .i64 (W : Int), .int .i64 (H : Int), .int .i64 8, .string s], .int .i64 0, .int .i64 (c : Int)] W' fun ed w' => ed = .returned (.agg #[.int .i64 n1, .int .i64 (H : Int), .int .i64 8, .string (partA s W 0 c H)]) ∧ Below W'.heap.size W' w' from part_any W H 0 c n1 s W' hW9 hH9 (by omega) (by omega) hs h1)
  have HC2 := Lib.hid (fun W' => part_any W H c W n2 s W' hW9 hH9 (by omega) (by omega) hs h2)
  have HPS := Lib.hid (fun c d A D B C W' ha hb h => psame_yes 12 11 N c d A D B C W' ha hb h)
  have HTP := Lib.hid (fun G Y t (ht : t < N) => tile_px 12 (fun (j i : Nat) => atV n1 H 8 (partA s W 0 c H) a b c0 d e f (16 * (i : Int) + 8) (16 * (j : Int) + 8)) (fun (j i : Nat) => atV n2 H 8 (partA s W c W H) a b c0 d (e + ca) (f + cb) (16 * (i : Int) + 8) (16 * (j : Int) + 8)) (fun (j i : Nat) => atV W H 8 s a b c0 d e f (16 * (i : Int) + 8) (16 * (j : Int) + 8)) G Y (fun j i => by
    have := tile_at W H c s a b c0 d e f (16 * (i : Int) + 8) (16 * (j : Int) + 8) n1 n2 (by omega) hs h1 h2
    rw [qca, qcb] at this
    exact this) t)
  have d1 : decide ((W : Int) < 2) = false := by simp; omega
  have a0 : -42467328 ≤ a := by omega
  have a1 : a ≤ 42467328 := by omega
  have b0 : -42467328 ≤ b := by omega
  have b1 : b ≤ 42467328 := by omega
  have e0 : -9830400 ≤ e := by omega
  have e1 : e ≤ 9830400 := by omega
  have f0 : -9830400 ≤ f := by omega
  have f1 : f ≤ 9830400 := by omega
  have HI1 := Lib.hid hr
  have HI2 := Lib.hid hr2
  have HI3 := Lib.hid hr3
  clear hr hr2 hr3 hn3 hN may8 hz1 hz2 hm0 hm1 hm2 hmt hms hdet h1 h2 hs
  go_enter Try.func5, Try.ntmps5
  go_wp2_with fail
  have hst0 : Below w.heap.size w w := by (repeat' (first | exact Below.refl _ _ | exact Below.refl _ _ | refine balloc ?_ _ | refine Below.drew ?_ | refine below_drewN ?_ _ | refine bset ?_ (by first | omega | (simp <;> omega)) _))
  refine (known_any _).mono ?_
  rintro e_ w1 ⟨rfl, hb⟩
  have hst : Below w.heap.size w w1 := btrans hst0 hb
  have hbw : Below w.heap.size w w1 := hst
  replace HI1 := Lib.hid (HI1.out.below hst)
  replace HI2 := Lib.hid (HI2.out.below hst)
  replace HI3 := Lib.hid (HI3.out.below hst)
  clear hst hst0 hb 
  go_wp2_with fail
  have hst0 : Below w1.heap.size w1 w1 := by (repeat' (first | exact Below.refl _ _ | exact Below.refl _ _ | refine balloc ?_ _ | refine Below.drew ?_ | refine below_drewN ?_ _ | refine bset ?_ (by first | omega | (simp <;> omega)) _))
  refine (HMd.out _ (HI1.out.below hst0)).mono ?_
  rintro e_ w2 ⟨rfl, hb⟩
  have hst : Below w1.heap.size w1 w2 := btrans hst0 hb
  replace hbw : Below w.heap.size w w2 := btrans hbw hst
  replace HI1 := Lib.hid (HI1.out.below hst)
  replace HI2 := Lib.hid (HI2.out.below hst)
  replace HI3 := Lib.hid (HI3.out.below hst)
  clear hst hst0 hb 
  go_wp2_with fail
  have hst0 : Below w2.heap.size w2 w2 := by (repeat' (first | exact Below.refl _ _ | exact Below.refl _ _ | refine balloc ?_ _ | refine Below.drew ?_ | refine below_drewN ?_ _ | refine bset ?_ (by first | omega | (simp <;> omega)) _))
  refine (HPG.out _ (HI3.out.below hst0)).mono ?_
  rintro e_ w3 ⟨gp, Y, rfl, hP, hb⟩
  have hst : Below w2.heap.size w2 w3 := btrans hst0 hb
  replace hbw : Below w.heap.size w w3 := btrans hbw hst
  replace HI1 := Lib.hid (HI1.out.below hst)
  replace HI2 := Lib.hid (HI2.out.below hst)
  replace HI3 := Lib.hid (HI3.out.below hst)
  clear hst hst0 hb 
  have HhP := Lib.hid hP
  clear hP
  go_wp2_with fail
  refine (HPL.out _).mono ?_
  rintro e_ w_ ⟨rfl, rfl⟩
  go_wp2_with fail
  have hst0 : Below w3.heap.size w3 ((w3.alloc (.cells #[.int .i64 (W : Int), .int .i64 (H : Int), .int .i64 8, .string s] 23)).alloc (.cells #[.int .i64 12, .int .i64 11, .slice (some ⟨gp, 0, none⟩) N N] 46)) := by (repeat' (first | exact Below.refl _ _ | exact Below.refl _ _ | refine balloc ?_ _ | refine Below.drew ?_ | refine below_drewN ?_ _ | refine bset ?_ (by first | omega | (simp <;> omega)) _))
  refine (HUn.out _ (HI2.out.below hst0)).mono ?_
  rintro e_ w4 ⟨rfl, hb⟩
  have hst : Below w3.heap.size w3 w4 := btrans hst0 hb
  have Ki := ((Blk.new w3 23 #[.int .i64 (W : Int), .int .i64 (H : Int), .int .i64 8, .string s]).alloc (.cells #[.int .i64 12, .int .i64 11, .slice (some ⟨gp, 0, none⟩) N N] 46))
  have Kp := (Blk.new (w3.alloc (.cells #[.int .i64 (W : Int), .int .i64 (H : Int), .int .i64 8, .string s] 23)) 46 #[.int .i64 12, .int .i64 11, .slice (some ⟨gp, 0, none⟩) N N])
  have hz_Kp : (w3.alloc (.cells #[.int .i64 (W : Int), .int .i64 (H : Int), .int .i64 8, .string s] 23)).heap.size = w3.heap.size + 1 := by simp
  rw [hz_Kp] at Kp
  clear hz_Kp
  replace Ki := Ki.below hb Ki.lt
  replace Kp := Kp.below hb Kp.lt
  replace hbw : Below w.heap.size w w4 := btrans hbw hst
  replace HI1 := Lib.hid (HI1.out.below hst)
  replace HI2 := Lib.hid (HI2.out.below hst)
  replace HI3 := Lib.hid (HI3.out.below hst)
  replace HhP := Lib.hid (HhP.out.below hst)
  clear hst hst0 hb 
  have lKi := Ki.lt
  have cKi0 := Ki.cell 0
  have cKi1 := Ki.cell 1
  have cKi2 := Ki.cell 2
  have cKi3 := Ki.cell 3
  have lKp := Kp.lt
  have cKp0 := Kp.cell 0
  have cKp1 := Kp.cell 1
  have cKp2 := Kp.cell 2
  simp only [List.getElem?_toArray, List.getElem?_cons_succ, List.getElem?_cons_zero] at cKi0 cKi1 cKi2 cKi3 cKp0 cKp1 cKp2
  go_wp2_with fail
  have hst : Below w4.heap.size w4 (w4.alloc (.cells #[.int .i64 ta, .int .i64 tb, .int .i64 tc, .int .i64 td, .int .i64 0, .int .i64 0] 25)) := by (repeat' (first | exact Below.refl _ _ | exact Below.refl _ _ | refine balloc ?_ _ | refine Below.drew ?_ | refine below_drewN ?_ _ | refine bset ?_ (by first | omega | (simp <;> omega)) _))
  replace HhP := Lib.hid (HhP.out.below hst)
  clear hst
  replace Ki := (Ki.alloc (.cells #[.int .i64 ta, .int .i64 tb, .int .i64 tc, .int .i64 td, .int .i64 0, .int .i64 0] 25))
  replace Kp := (Kp.alloc (.cells #[.int .i64 ta, .int .i64 tb, .int .i64 tc, .int .i64 td, .int .i64 0, .int .i64 0] 25))
  have Kt := (Blk.new w4 25 #[.int .i64 ta, .int .i64 tb, .int .i64 tc, .int .i64 td, .int .i64 0, .int .i64 0])
  replace hbw : Below w.heap.size w (w4.alloc (.cells #[.int .i64 ta, .int .i64 tb, .int .i64 tc, .int .i64 td, .int .i64 0, .int .i64 0] 25)) := by (repeat' (first | refine bset ?_ (by first | omega | (simp <;> omega)) _ | refine balloc ?_ _ | refine Below.drew ?_ | refine below_drewN ?_ _ | exact hbw | exact Below.refl _ _))
  clear lKi cKi0 cKi1 cKi2 cKi3 lKp cKp0 cKp1 cKp2
  generalize hwx : (w4.alloc (.cells #[.int .i64 ta, .int .i64 tb, .int .i64 tc, .int .i64 td, .int .i64 0, .int .i64 0] 25)) = w5 at *
  clear hwx
  have lKi := Ki.lt
  have cKi0 := Ki.cell 0
  have cKi1 := Ki.cell 1
  have cKi2 := Ki.cell 2
  have cKi3 := Ki.cell 3
  have lKp := Kp.lt
  have cKp0 := Kp.cell 0
  have cKp1 := Kp.cell 1
  have cKp2 := Kp.cell 2
  have lKt := Kt.lt
  have cKt0 := Kt.cell 0
  have cKt1 := Kt.cell 1
  have cKt2 := Kt.cell 2
  have cKt3 := Kt.cell 3
  have cKt4 := Kt.cell 4
  have cKt5 := Kt.cell 5
  simp only [List.getElem?_toArray, List.getElem?_cons_succ, List.getElem?_cons_zero] at cKi0 cKi1 cKi2 cKi3 cKp0 cKp1 cKp2 cKt0 cKt1 cKt2 cKt3 cKt4 cKt5
  refine wp_region_alloc1 21 [] (.cells #[.int .i64 0, .int .i64 0, .int .i64 0, .int .i64 0, .int .i64 0, .int .i64 0] 25) _ (by kernel_rfl) (by kernel_rfl) (fun d _ _ _ _ h => by cases d <;> exact h) rfl (fun ρ w => alloc_mat2 _ _ _ _ _ ρ w) ?_
  intro u0
  have uKt0 : ∀ u : Up u0.val, u.val.cell? ⟨w4.heap.size, 0, none⟩ = some (.int .i64 ta) := fun u => ((u.cell (Nat.lt_of_lt_of_le lKt u0.ok.size)).trans (u0.cell lKt)).trans cKt0
  have uKt1 : ∀ u : Up u0.val, u.val.cell? ⟨w4.heap.size, 1, none⟩ = some (.int .i64 tb) := fun u => ((u.cell (Nat.lt_of_lt_of_le lKt u0.ok.size)).trans (u0.cell lKt)).trans cKt1
  have uKt2 : ∀ u : Up u0.val, u.val.cell? ⟨w4.heap.size, 2, none⟩ = some (.int .i64 tc) := fun u => ((u.cell (Nat.lt_of_lt_of_le lKt u0.ok.size)).trans (u0.cell lKt)).trans cKt2
  have uKt3 : ∀ u : Up u0.val, u.val.cell? ⟨w4.heap.size, 3, none⟩ = some (.int .i64 td) := fun u => ((u.cell (Nat.lt_of_lt_of_le lKt u0.ok.size)).trans (u0.cell lKt)).trans cKt3
  have uKt4 : ∀ u : Up u0.val, u.val.cell? ⟨w4.heap.size, 4, none⟩ = some (.int .i64 0) := fun u => ((u.cell (Nat.lt_of_lt_of_le lKt u0.ok.size)).trans (u0.cell lKt)).trans cKt4
  have uKt5 : ∀ u : Up u0.val, u.val.cell? ⟨w4.heap.size, 5, none⟩ = some (.int .i64 0) := fun u => ((u.cell (Nat.lt_of_lt_of_le lKt u0.ok.size)).trans (u0.cell lKt)).trans cKt5
  have HU1 := Lib.hid (fun u : Up u0.val => up_of (u := u) (HPX.out u.val))
  have HU2 := Lib.hid (fun u : Up u0.val => up_of (u := u) (HPY.out u.val))
  simp only [List.take_succ_cons, List.take_zero, List.drop_succ_cons, List.drop_zero]
  repeat (go_big_quiet_step (fail))
  go_big_quiet_step (exact HU1.out _)
  repeat (go_big_quiet_step (fail))
  go_big_quiet_step (exact HU2.out _)
  repeat (go_big_quiet_step (fail))
  refine wpQuiet_nil ?_
  rintro _ ⟨uq, rfl⟩ Pm hm0 hm1 Km
  replace Km : Blk uq.val Pm 25 #[.int .i64 0, .int .i64 0, .int .i64 0, .int .i64 0, .int .i64 0, .int .i64 0] := Km
  have hst0 : Below w5.heap.size w5 uq.val := uq.ok
  simp only [Act.put]
  generalize hwx : uq.val = wq at *
  clear hwx uq u0 HU1 HU2 HPX HPY uKt0 uKt1 uKt2 uKt3 uKt4 uKt5
  have cKm0 := Km.cell 0
  have fKm0 := Km.frozen 0
  have cKm1 := Km.cell 1
  have fKm1 := Km.frozen 1
  have cKm2 := Km.cell 2
  have fKm2 := Km.frozen 2
  have cKm3 := Km.cell 3
  have fKm3 := Km.frozen 3
  have cKm4 := Km.cell 4
  have fKm4 := Km.frozen 4
  have cKm5 := Km.cell 5
  have fKm5 := Km.frozen 5
  simp only [List.getElem?_toArray, List.getElem?_cons_succ, List.getElem?_cons_zero] at cKm0 cKm1 cKm2 cKm3 cKm4 cKm5
  refine wpList_stop fun Kx_ HKx_ => ?_
  go_wp2_with fail
  have Km2 : Blk _ Pm 25 #[.int .i64 a, .int .i64 b, .int .i64 c0, .int .i64 d, .int .i64 e, .int .i64 f] := blk_cast ((((((Km.set_ 0 (.int .i64 a)).set_ 1 (.int .i64 b)).set_ 2 (.int .i64 c0)).set_ 3 (.int .i64 d)).set_ 4 (.int .i64 e)).set_ 5 (.int .i64 f)) (by kernel_rfl)
  have hst : Below w5.heap.size w5 ((((((wq.setCell ⟨Pm, 0, none⟩ (.int .i64 a)).setCell ⟨Pm, 1, none⟩ (.int .i64 b)).setCell ⟨Pm, 2, none⟩ (.int .i64 c0)).setCell ⟨Pm, 3, none⟩ (.int .i64 d)).setCell ⟨Pm, 4, none⟩ (.int .i64 e)).setCell ⟨Pm, 5, none⟩ (.int .i64 f)) := by (repeat' (first | refine bset ?_ (by first | omega | (simp <;> omega)) _ | refine balloc ?_ _ | refine Below.drew ?_ | refine below_drewN ?_ _ | exact hst0 | exact Below.refl _ _))
  have hsz : ((((((wq.setCell ⟨Pm, 0, none⟩ (.int .i64 a)).setCell ⟨Pm, 1, none⟩ (.int .i64 b)).setCell ⟨Pm, 2, none⟩ (.int .i64 c0)).setCell ⟨Pm, 3, none⟩ (.int .i64 d)).setCell ⟨Pm, 4, none⟩ (.int .i64 e)).setCell ⟨Pm, 5, none⟩ (.int .i64 f)).heap.size = wq.heap.size := by simp only [World.size_setCell]
  have hag : ∀ bq, ¬ (bq = Pm) → ∀ o, ((((((wq.setCell ⟨Pm, 0, none⟩ (.int .i64 a)).setCell ⟨Pm, 1, none⟩ (.int .i64 b)).setCell ⟨Pm, 2, none⟩ (.int .i64 c0)).setCell ⟨Pm, 3, none⟩ (.int .i64 d)).setCell ⟨Pm, 4, none⟩ (.int .i64 e)).setCell ⟨Pm, 5, none⟩ (.int .i64 f)).cell? ⟨bq, o, none⟩ = wq.cell? ⟨bq, o, none⟩ := fun bq hbq o => by
    replace hbq : Pm ≠ bq := fun e => hbq e.symm
    exact (World.cell?_setCell_far _ ⟨Pm, 5, none⟩ ⟨bq, o, none⟩ _ hbq).trans ((World.cell?_setCell_far _ ⟨Pm, 4, none⟩ ⟨bq, o, none⟩ _ hbq).trans ((World.cell?_setCell_far _ ⟨Pm, 3, none⟩ ⟨bq, o, none⟩ _ hbq).trans ((World.cell?_setCell_far _ ⟨Pm, 2, none⟩ ⟨bq, o, none⟩ _ hbq).trans ((World.cell?_setCell_far _ ⟨Pm, 1, none⟩ ⟨bq, o, none⟩ _ hbq).trans (World.cell?_setCell_far _ ⟨Pm, 0, none⟩ ⟨bq, o, none⟩ _ hbq)))))
  have hex : Blk ((((((wq.setCell ⟨Pm, 0, none⟩ (.int .i64 a)).setCell ⟨Pm, 1, none⟩ (.int .i64 b)).setCell ⟨Pm, 2, none⟩ (.int .i64 c0)).setCell ⟨Pm, 3, none⟩ (.int .i64 d)).setCell ⟨Pm, 4, none⟩ (.int .i64 e)).setCell ⟨Pm, 5, none⟩ (.int .i64 f)) Pm 25 #[.int .i64 a, .int .i64 b, .int .i64 c0, .int .i64 d, .int .i64 e, .int .i64 f] ∧ Below w5.heap.size w5 ((((((wq.setCell ⟨Pm, 0, none⟩ (.int .i64 a)).setCell ⟨Pm, 1, none⟩ (.int .i64 b)).setCell ⟨Pm, 2, none⟩ (.int .i64 c0)).setCell ⟨Pm, 3, none⟩ (.int .i64 d)).setCell ⟨Pm, 4, none⟩ (.int .i64 e)).setCell ⟨Pm, 5, none⟩ (.int .i64 f)) ∧ ((((((wq.setCell ⟨Pm, 0, none⟩ (.int .i64 a)).setCell ⟨Pm, 1, none⟩ (.int .i64 b)).setCell ⟨Pm, 2, none⟩ (.int .i64 c0)).setCell ⟨Pm, 3, none⟩ (.int .i64 d)).setCell ⟨Pm, 4, none⟩ (.int .i64 e)).setCell ⟨Pm, 5, none⟩ (.int .i64 f)).heap.size = wq.heap.size ∧ (∀ bq, ¬ (bq = Pm) → ∀ o, ((((((wq.setCell ⟨Pm, 0, none⟩ (.int .i64 a)).setCell ⟨Pm, 1, none⟩ (.int .i64 b)).setCell ⟨Pm, 2, none⟩ (.int .i64 c0)).setCell ⟨Pm, 3, none⟩ (.int .i64 d)).setCell ⟨Pm, 4, none⟩ (.int .i64 e)).setCell ⟨Pm, 5, none⟩ (.int .i64 f)).cell? ⟨bq, o, none⟩ = wq.cell? ⟨bq, o, none⟩) := ⟨Km2, hst, hsz, hag⟩
  clear Km2 hst hsz hag
  refine HKx_.out _ _ ?_
  clear HKx_ Kx_
  revert hex
  generalize hwx : ((((((wq.setCell ⟨Pm, 0, none⟩ (.int .i64 a)).setCell ⟨Pm, 1, none⟩ (.int .i64 b)).setCell ⟨Pm, 2, none⟩ (.int .i64 c0)).setCell ⟨Pm, 3, none⟩ (.int .i64 d)).setCell ⟨Pm, 4, none⟩ (.int .i64 e)).setCell ⟨Pm, 5, none⟩ (.int .i64 f)) = w20
  intro hex
  clear hwx
  clear Km cKm0 fKm0 cKm1 fKm1 cKm2 fKm2 cKm3 fKm3 cKm4 fKm4 cKm5 fKm5
  obtain ⟨Km, hst, hsz, hag⟩ := hex
  clear hsz hag
  replace Ki := Ki.below hst lKi
  replace Kp := Kp.below hst lKp
  replace Kt := Kt.below hst lKt
  replace hbw := btrans hbw hst
  replace HhP := Lib.hid (HhP.out.below hst)
  clear hst hst0 lKi cKi0 cKi1 cKi2 cKi3 lKp cKp0 cKp1 cKp2 lKt cKt0 cKt1 cKt2 cKt3 cKt4 cKt5 hm0 hm1
  have lKi := Ki.lt
  have cKi0 := Ki.cell 0
  have cKi1 := Ki.cell 1
  have cKi2 := Ki.cell 2
  have cKi3 := Ki.cell 3
  have lKp := Kp.lt
  have cKp0 := Kp.cell 0
  have cKp1 := Kp.cell 1
  have cKp2 := Kp.cell 2
  have lKt := Kt.lt
  have cKt0 := Kt.cell 0
  have cKt1 := Kt.cell 1
  have cKt2 := Kt.cell 2
  have cKt3 := Kt.cell 3
  have cKt4 := Kt.cell 4
  have cKt5 := Kt.cell 5
  have lKm := Km.lt
  have cKm0 := Km.cell 0
  have cKm1 := Km.cell 1
  have cKm2 := Km.cell 2
  have cKm3 := Km.cell 3
  have cKm4 := Km.cell 4
  have cKm5 := Km.cell 5
  simp only [List.getElem?_toArray, List.getElem?_cons_succ, List.getElem?_cons_zero] at cKi0 cKi1 cKi2 cKi3 cKp0 cKp1 cKp2 cKt0 cKt1 cKt2 cKt3 cKt4 cKt5 cKm0 cKm1 cKm2 cKm3 cKm4 cKm5
  have hw20 := hbw.size
  go_wp2_with fail
  have hne : Pm ≠ w20.heap.size := Nat.ne_of_lt lKm
  have Ki_20 := Ki
  have lKi_20 := lKi
  have Kp_20 := Kp
  have lKp_20 := lKp
  have Km_20 := Km
  have lKm_20 := lKm
  have HhP_20 := HhP
  have h2021 : Below w20.heap.size w20 (w20.alloc (.cells #[.int .i64 a, .int .i64 b, .int .i64 c0, .int .i64 d, .int .i64 e, .int .i64 f] 25)) := balloc (Below.refl _ _) _
  have hst : Below w20.heap.size w20 (w20.alloc (.cells #[.int .i64 a, .int .i64 b, .int .i64 c0, .int .i64 d, .int .i64 e, .int .i64 f] 25)) := by (repeat' (first | exact Below.refl _ _ | exact Below.refl _ _ | refine balloc ?_ _ | refine Below.drew ?_ | refine below_drewN ?_ _ | refine bset ?_ (by first | omega | (simp <;> omega)) _))
  replace HhP := Lib.hid (HhP.out.below hst)
  clear hst
  replace Ki := (Ki.alloc (.cells #[.int .i64 a, .int .i64 b, .int .i64 c0, .int .i64 d, .int .i64 e, .int .i64 f] 25))
  replace Kp := (Kp.alloc (.cells #[.int .i64 a, .int .i64 b, .int .i64 c0, .int .i64 d, .int .i64 e, .int .i64 f] 25))
  replace Kt := (Kt.alloc (.cells #[.int .i64 a, .int .i64 b, .int .i64 c0, .int .i64 d, .int .i64 e, .int .i64 f] 25))
  replace Km := (Km.alloc (.cells #[.int .i64 a, .int .i64 b, .int .i64 c0, .int .i64 d, .int .i64 e, .int .i64 f] 25))
  have Ks := (Blk.new w20 25 #[.int .i64 a, .int .i64 b, .int .i64 c0, .int .i64 d, .int .i64 e, .int .i64 f])
  replace hbw : Below w.heap.size w (w20.alloc (.cells #[.int .i64 a, .int .i64 b, .int .i64 c0, .int .i64 d, .int .i64 e, .int .i64 f] 25)) := by (repeat' (first | refine bset ?_ (by first | omega | (simp <;> omega)) _ | refine balloc ?_ _ | refine Below.drew ?_ | refine below_drewN ?_ _ | exact hbw | exact Below.refl _ _))
  clear lKi cKi0 cKi1 cKi2 cKi3 lKp cKp0 cKp1 cKp2 lKt cKt0 cKt1 cKt2 cKt3 cKt4 cKt5 lKm cKm0 cKm1 cKm2 cKm3 cKm4 cKm5
  generalize hwx : (w20.alloc (.cells #[.int .i64 a, .int .i64 b, .int .i64 c0, .int .i64 d, .int .i64 e, .int .i64 f] 25)) = w21 at *
  clear hwx
  clear Kt
  have lKi := Ki.lt
  have cKi0 := Ki.cell 0
  have cKi1 := Ki.cell 1
  have cKi2 := Ki.cell 2
  have cKi3 := Ki.cell 3
  have lKp := Kp.lt
  have cKp0 := Kp.cell 0
  have cKp1 := Kp.cell 1
  have cKp2 := Kp.cell 2
  have lKm := Km.lt
  have cKm0 := Km.cell 0
  have cKm1 := Km.cell 1
  have cKm2 := Km.cell 2
  have cKm3 := Km.cell 3
  have cKm4 := Km.cell 4
  have cKm5 := Km.cell 5
  have lKs := Ks.lt
  have cKs0 := Ks.cell 0
  have cKs1 := Ks.cell 1
  have cKs2 := Ks.cell 2
  have cKs3 := Ks.cell 3
  have cKs4 := Ks.cell 4
  have cKs5 := Ks.cell 5
  have fKs0 := Ks.frozen 0
  have fKs1 := Ks.frozen 1
  have fKs2 := Ks.frozen 2
  have fKs3 := Ks.frozen 3
  have fKs4 := Ks.frozen 4
  have fKs5 := Ks.frozen 5
  simp only [List.getElem?_toArray, List.getElem?_cons_succ, List.getElem?_cons_zero] at cKi0 cKi1 cKi2 cKi3 cKp0 cKp1 cKp2 cKm0 cKm1 cKm2 cKm3 cKm4 cKm5 cKs0 cKs1 cKs2 cKs3 cKs4 cKs5
  obtain ⟨Ps, hPs⟩ : ∃ q, w20.heap.size = q := ⟨_, rfl⟩
  have hPle : w20.heap.size ≤ Ps := Nat.le_of_eq hPs
  rw [hPs] at Ks hne lKs fKs4 fKs5 cKs4 cKs5
  rw [hPs]
  have hne2 : Ps ≠ Pm := hne.symm
  clear cKs0 fKs0 cKs1 fKs1 cKs2 fKs2 cKs3 fKs3 hPs
  go_region
  have hst : Below w20.heap.size w20 ((w21.setCell ⟨Ps, 4, none⟩ (.int .i64 (e + ca))).setCell ⟨Ps, 5, none⟩ (.int .i64 (f + cb))).drew := Below.drew (bset (bset h2021 hPle _) hPle _)
  have Ks2 : Blk ((w21.setCell ⟨Ps, 4, none⟩ (.int .i64 (e + ca))).setCell ⟨Ps, 5, none⟩ (.int .i64 (f + cb))).drew Ps 25 #[.int .i64 a, .int .i64 b, .int .i64 c0, .int .i64 d, .int .i64 (e + ca), .int .i64 (f + cb)] := blk_cast ((Ks.set_ 4 (.int .i64 (e + ca))).set_ 5 (.int .i64 (f + cb))).drew (by kernel_rfl)
  have hbw2 : Below w.heap.size w ((w21.setCell ⟨Ps, 4, none⟩ (.int .i64 (e + ca))).setCell ⟨Ps, 5, none⟩ (.int .i64 (f + cb))).drew := Below.drew (bset (bset hbw (Nat.le_trans hw20 hPle) _) (Nat.le_trans hw20 hPle) _)
  clear Ks h2021 hPle hne hne2 hw20 hbw lKi cKi0 cKi1 cKi2 cKi3 lKp cKp0 cKp1 cKp2 lKm cKm0 cKm1 cKm2 cKm3 cKm4 cKm5 lKs cKs4 cKs5 fKs4 fKs5 Ki Kp Km HhP
  generalize hwx : ((w21.setCell ⟨Ps, 4, none⟩ (.int .i64 (e + ca))).setCell ⟨Ps, 5, none⟩ (.int .i64 (f + cb))).drew = w22 at *
  clear hwx
  have Ks := Ks2
  have hbw := hbw2
  clear Ks2 hbw2
  have Ki := Ki_20.below hst lKi_20
  have Kp := Kp_20.below hst lKp_20
  have Km := Km_20.below hst lKm_20
  have HhP := Lib.hid (HhP_20.out.below hst)
  clear hst Ki_20 lKi_20 Kp_20 lKp_20 Km_20 lKm_20 HhP_20
  have lKi := Ki.lt
  have cKi0 := Ki.cell 0
  have cKi1 := Ki.cell 1
  have cKi2 := Ki.cell 2
  have cKi3 := Ki.cell 3
  have lKp := Kp.lt
  have cKp0 := Kp.cell 0
  have cKp1 := Kp.cell 1
  have cKp2 := Kp.cell 2
  have lKm := Km.lt
  have cKm0 := Km.cell 0
  have cKm1 := Km.cell 1
  have cKm2 := Km.cell 2
  have cKm3 := Km.cell 3
  have cKm4 := Km.cell 4
  have cKm5 := Km.cell 5
  have lKs := Ks.lt
  have cKs0 := Ks.cell 0
  have cKs1 := Ks.cell 1
  have cKs2 := Ks.cell 2
  have cKs3 := Ks.cell 3
  have cKs4 := Ks.cell 4
  have cKs5 := Ks.cell 5
  simp only [List.getElem?_toArray, List.getElem?_cons_succ, List.getElem?_cons_zero] at cKi0 cKi1 cKi2 cKi3 cKp0 cKp1 cKp2 cKm0 cKm1 cKm2 cKm3 cKm4 cKm5 cKs0 cKs1 cKs2 cKs3 cKs4 cKs5
  go_wp2_with fail
  have hst0 : Below w22.heap.size w22 w22 := by (repeat' (first | exact Below.refl _ _ | exact Below.refl _ _ | refine balloc ?_ _ | refine Below.drew ?_ | refine below_drewN ?_ _ | refine bset ?_ (by first | omega | (simp <;> omega)) _))
  refine (HAL.out _).mono ?_
  rintro e_ w23 ⟨gA, hgA, rfl, hAl, hb⟩
  clear hgA
  have hst : Below w22.heap.size w22 w23 := btrans hst0 hb
  replace Ki := Ki.below hb Ki.lt
  replace Kp := Kp.below hb Kp.lt
  replace Km := Km.below hb Km.lt
  replace Ks := Ks.below hb Ks.lt
  replace hbw : Below w.heap.size w w23 := btrans hbw hst
  replace HhP := Lib.hid (HhP.out.below hst)
  clear hst hst0 hb lKi cKi0 cKi1 cKi2 cKi3 lKp cKp0 cKp1 cKp2 lKm cKm0 cKm1 cKm2 cKm3 cKm4 cKm5 lKs cKs0 cKs1 cKs2 cKs3 cKs4 cKs5
  have HhAl := Lib.hid hAl
  clear hAl
  have lKi := Ki.lt
  have cKi0 := Ki.cell 0
  have cKi1 := Ki.cell 1
  have cKi2 := Ki.cell 2
  have cKi3 := Ki.cell 3
  have lKp := Kp.lt
  have cKp0 := Kp.cell 0
  have cKp1 := Kp.cell 1
  have cKp2 := Kp.cell 2
  have lKm := Km.lt
  have cKm0 := Km.cell 0
  have cKm1 := Km.cell 1
  have cKm2 := Km.cell 2
  have cKm3 := Km.cell 3
  have cKm4 := Km.cell 4
  have cKm5 := Km.cell 5
  have lKs := Ks.lt
  have cKs0 := Ks.cell 0
  have cKs1 := Ks.cell 1
  have cKs2 := Ks.cell 2
  have cKs3 := Ks.cell 3
  have cKs4 := Ks.cell 4
  have cKs5 := Ks.cell 5
  simp only [List.getElem?_toArray, List.getElem?_cons_succ, List.getElem?_cons_zero] at cKi0 cKi1 cKi2 cKi3 cKp0 cKp1 cKp2 cKm0 cKm1 cKm2 cKm3 cKm4 cKm5 cKs0 cKs1 cKs2 cKs3 cKs4 cKs5
  go_wp2_with fail
  have hst : Below w23.heap.size w23 (w23.alloc (.cells #[.int .i64 12, .int .i64 11, .slice (some ⟨gA, 0, none⟩) 11 11] 51)) := by (repeat' (first | exact Below.refl _ _ | exact Below.refl _ _ | refine balloc ?_ _ | refine Below.drew ?_ | refine below_drewN ?_ _ | refine bset ?_ (by first | omega | (simp <;> omega)) _))
  replace HhP := Lib.hid (HhP.out.below hst)
  replace HhAl := Lib.hid (HhAl.out.below hst)
  clear hst
  replace Ki := (Ki.alloc (.cells #[.int .i64 12, .int .i64 11, .slice (some ⟨gA, 0, none⟩) 11 11] 51))
  replace Kp := (Kp.alloc (.cells #[.int .i64 12, .int .i64 11, .slice (some ⟨gA, 0, none⟩) 11 11] 51))
  replace Km := (Km.alloc (.cells #[.int .i64 12, .int .i64 11, .slice (some ⟨gA, 0, none⟩) 11 11] 51))
  replace Ks := (Ks.alloc (.cells #[.int .i64 12, .int .i64 11, .slice (some ⟨gA, 0, none⟩) 11 11] 51))
  have KA := (Blk.new w23 51 #[.int .i64 12, .int .i64 11, .slice (some ⟨gA, 0, none⟩) 11 11])
  replace hbw : Below w.heap.size w (w23.alloc (.cells #[.int .i64 12, .int .i64 11, .slice (some ⟨gA, 0, none⟩) 11 11] 51)) := by (repeat' (first | refine bset ?_ (by first | omega | (simp <;> omega)) _ | refine balloc ?_ _ | refine Below.drew ?_ | refine below_drewN ?_ _ | exact hbw | exact Below.refl _ _))
  clear lKi cKi0 cKi1 cKi2 cKi3 lKp cKp0 cKp1 cKp2 lKm cKm0 cKm1 cKm2 cKm3 cKm4 cKm5 lKs cKs0 cKs1 cKs2 cKs3 cKs4 cKs5
  generalize hwx : (w23.alloc (.cells #[.int .i64 12, .int .i64 11, .slice (some ⟨gA, 0, none⟩) 11 11] 51)) = w24 at *
  clear hwx
  have lKi := Ki.lt
  have cKi0 := Ki.cell 0
  have cKi1 := Ki.cell 1
  have cKi2 := Ki.cell 2
  have cKi3 := Ki.cell 3
  have lKp := Kp.lt
  have cKp0 := Kp.cell 0
  have cKp1 := Kp.cell 1
  have cKp2 := Kp.cell 2
  have lKm := Km.lt
  have cKm0 := Km.cell 0
  have cKm1 := Km.cell 1
  have cKm2 := Km.cell 2
  have cKm3 := Km.cell 3
  have cKm4 := Km.cell 4
  have cKm5 := Km.cell 5
  have lKs := Ks.lt
  have cKs0 := Ks.cell 0
  have cKs1 := Ks.cell 1
  have cKs2 := Ks.cell 2
  have cKs3 := Ks.cell 3
  have cKs4 := Ks.cell 4
  have cKs5 := Ks.cell 5
  have lKA := KA.lt
  have cKA0 := KA.cell 0
  have cKA1 := KA.cell 1
  have cKA2 := KA.cell 2
  simp only [List.getElem?_toArray, List.getElem?_cons_succ, List.getElem?_cons_zero] at cKi0 cKi1 cKi2 cKi3 cKp0 cKp1 cKp2 cKm0 cKm1 cKm2 cKm3 cKm4 cKm5 cKs0 cKs1 cKs2 cKs3 cKs4 cKs5 cKA0 cKA1 cKA2
  refine wp_region_chainQ1 10 [9] [0, 1, 2, 3, 4, 5] [6] [7, 8, 9] (.cells #[.int .i64 0, .int .i64 0, .slice none 0 0] 46) _ (by kernel_rfl) (by kernel_rfl) (fun d _ _ _ _ h => by cases d <;> exact h) rfl (fun ρ w => alloc_page2 _ _ _ _ _ ρ w) ?_
  intro u0
  have uKi0 : ∀ u : Up u0.val, u.val.cell? ⟨w3.heap.size, 0, none⟩ = some (.int .i64 (W : Int)) := fun u => ((u.cell (Nat.lt_of_lt_of_le lKi u0.ok.size)).trans (u0.cell lKi)).trans cKi0
  have uKi1 : ∀ u : Up u0.val, u.val.cell? ⟨w3.heap.size, 1, none⟩ = some (.int .i64 (H : Int)) := fun u => ((u.cell (Nat.lt_of_lt_of_le lKi u0.ok.size)).trans (u0.cell lKi)).trans cKi1
  have uKi2 : ∀ u : Up u0.val, u.val.cell? ⟨w3.heap.size, 2, none⟩ = some (.int .i64 8) := fun u => ((u.cell (Nat.lt_of_lt_of_le lKi u0.ok.size)).trans (u0.cell lKi)).trans cKi2
  have uKi3 : ∀ u : Up u0.val, u.val.cell? ⟨w3.heap.size, 3, none⟩ = some (.string s) := fun u => ((u.cell (Nat.lt_of_lt_of_le lKi u0.ok.size)).trans (u0.cell lKi)).trans cKi3
  have uKp0 : ∀ u : Up u0.val, u.val.cell? ⟨(w3.heap.size + 1), 0, none⟩ = some (.int .i64 12) := fun u => ((u.cell (Nat.lt_of_lt_of_le lKp u0.ok.size)).trans (u0.cell lKp)).trans cKp0
  have uKp1 : ∀ u : Up u0.val, u.val.cell? ⟨(w3.heap.size + 1), 1, none⟩ = some (.int .i64 11) := fun u => ((u.cell (Nat.lt_of_lt_of_le lKp u0.ok.size)).trans (u0.cell lKp)).trans cKp1
  have uKp2 : ∀ u : Up u0.val, u.val.cell? ⟨(w3.heap.size + 1), 2, none⟩ = some (.slice (some ⟨gp, 0, none⟩) N N) := fun u => ((u.cell (Nat.lt_of_lt_of_le lKp u0.ok.size)).trans (u0.cell lKp)).trans cKp2
  have uKm0 : ∀ u : Up u0.val, u.val.cell? ⟨Pm, 0, none⟩ = some (.int .i64 a) := fun u => ((u.cell (Nat.lt_of_lt_of_le lKm u0.ok.size)).trans (u0.cell lKm)).trans cKm0
  have uKm1 : ∀ u : Up u0.val, u.val.cell? ⟨Pm, 1, none⟩ = some (.int .i64 b) := fun u => ((u.cell (Nat.lt_of_lt_of_le lKm u0.ok.size)).trans (u0.cell lKm)).trans cKm1
  have uKm2 : ∀ u : Up u0.val, u.val.cell? ⟨Pm, 2, none⟩ = some (.int .i64 c0) := fun u => ((u.cell (Nat.lt_of_lt_of_le lKm u0.ok.size)).trans (u0.cell lKm)).trans cKm2
  have uKm3 : ∀ u : Up u0.val, u.val.cell? ⟨Pm, 3, none⟩ = some (.int .i64 d) := fun u => ((u.cell (Nat.lt_of_lt_of_le lKm u0.ok.size)).trans (u0.cell lKm)).trans cKm3
  have uKm4 : ∀ u : Up u0.val, u.val.cell? ⟨Pm, 4, none⟩ = some (.int .i64 e) := fun u => ((u.cell (Nat.lt_of_lt_of_le lKm u0.ok.size)).trans (u0.cell lKm)).trans cKm4
  have uKm5 : ∀ u : Up u0.val, u.val.cell? ⟨Pm, 5, none⟩ = some (.int .i64 f) := fun u => ((u.cell (Nat.lt_of_lt_of_le lKm u0.ok.size)).trans (u0.cell lKm)).trans cKm5
  have uKA0 : ∀ u : Up u0.val, u.val.cell? ⟨w23.heap.size, 0, none⟩ = some (.int .i64 12) := fun u => ((u.cell (Nat.lt_of_lt_of_le lKA u0.ok.size)).trans (u0.cell lKA)).trans cKA0
  have uKA1 : ∀ u : Up u0.val, u.val.cell? ⟨w23.heap.size, 1, none⟩ = some (.int .i64 11) := fun u => ((u.cell (Nat.lt_of_lt_of_le lKA u0.ok.size)).trans (u0.cell lKA)).trans cKA1
  have uKA2 : ∀ u : Up u0.val, u.val.cell? ⟨w23.heap.size, 2, none⟩ = some (.slice (some ⟨gA, 0, none⟩) 11 11) := fun u => ((u.cell (Nat.lt_of_lt_of_le lKA u0.ok.size)).trans (u0.cell lKA)).trans cKA2
  have HU1 := Lib.hid (fun u : Up u0.val => up_of (u := u) (HC1.out u.val))
  change wpQuiet _ _ _ _ (_ :: _ :: _ :: _ :: _ :: _ :: []) _
  unfold upC
  simp only [List.getElem_toArray, List.getElem_cons_succ, List.getElem_cons_zero]
  repeat (go_big_quiet_step (fail))
  go_big_quiet_step (exact HU1.out _)
  repeat (go_big_quiet_step (fail))
  refine wpQuiet_nil ?_
  clear HU1 u0 uKi0 uKi1 uKi2 uKi3 uKp0 uKp1 uKp2 uKm0 uKm1 uKm2 uKm3 uKm4 uKm5 uKA0 uKA1 uKA2
  refine fun V1 hV1 => ?_
  refine stepV_of _ 31 #[.agg #[.int .i64 12, .int .i64 11, .slice (some ⟨gp, 0, none⟩) N N], .agg #[.int .i64 n1, .int .i64 (H : Int), .int .i64 8, .string (partA s W 0 c H)], .agg #[.int .i64 a, .int .i64 b, .int .i64 c0, .int .i64 d, .int .i64 e, .int .i64 f], .agg #[.int .i64 12, .int .i64 11, .slice (some ⟨gA, 0, none⟩) 11 11]] rfl (by kernel_rfl) (by kernel_rfl) ?_
  refine (HP1.out _ _ _ _ _ _ V1 (HhP.out.below hV1) (HhAl.out.below hV1)).mono ?_
  rintro e_ V2 ⟨gx, fx, hgx, rfl, hX, hb2⟩
  refine ⟨_, rfl, hb2, ?_⟩
  refine fun V3 hV3 u1 => ?_
  change wpQuiet _ _ _ _ (_ :: _ :: _ :: []) _
  unfold upC
  simp only [Act.put, List.setIfInBounds_toArray, List.set_cons_zero, List.set_cons_succ, List.getElem_toArray, List.getElem_cons_succ, List.getElem_cons_zero]
  repeat (go_big_quiet_step (fail))
  refine wpQuiet_nil ?_
  clear u1
  refine fun wq hV4 Px ⟨hp0, hp1, Kx⟩ => ?_
  have hX2 := Lib.hid (hX.below (btrans hV3 hV4))
  have hst0 := btrans (btrans hV1 hb2) (btrans hV3 hV4)
  clear hX hV1 hb2 hV3 hV4
  replace Kx : Blk wq Px 46 #[.int .i64 0, .int .i64 0, .slice none 0 0] := Kx
  simp only [Act.put, List.setIfInBounds_toArray, List.set_cons_zero, List.set_cons_succ, List.drop_succ_cons, List.drop_zero]
  have hXx := hX2
  clear hX2
  have cKx0 := Kx.cell 0
  have fKx0 := Kx.frozen 0
  have cKx1 := Kx.cell 1
  have fKx1 := Kx.frozen 1
  have cKx2 := Kx.cell 2
  have fKx2 := Kx.frozen 2
  simp only [List.getElem?_toArray, List.getElem?_cons_succ, List.getElem?_cons_zero] at cKx0 cKx1 cKx2
  refine wpList_stop fun Kx_ HKx_ => ?_
  go_wp2_with fail
  have Kx2 : Blk _ Px 46 #[.int .i64 12, .int .i64 11, .slice (some ⟨gx, 0, none⟩) N fx] := blk_cast (((Kx.set_ 0 (.int .i64 12)).set_ 1 (.int .i64 11)).set_ 2 (.slice (some ⟨gx, 0, none⟩) N fx)) (by kernel_rfl)
  have hst : Below w24.heap.size w24 (((wq.setCell ⟨Px, 0, none⟩ (.int .i64 12)).setCell ⟨Px, 1, none⟩ (.int .i64 11)).setCell ⟨Px, 2, none⟩ (.slice (some ⟨gx, 0, none⟩) N fx)) := by (repeat' (first | refine bset ?_ (by first | omega | (simp <;> omega)) _ | refine balloc ?_ _ | refine Below.drew ?_ | refine below_drewN ?_ _ | exact hst0 | exact Below.refl _ _))
  have hsz : (((wq.setCell ⟨Px, 0, none⟩ (.int .i64 12)).setCell ⟨Px, 1, none⟩ (.int .i64 11)).setCell ⟨Px, 2, none⟩ (.slice (some ⟨gx, 0, none⟩) N fx)).heap.size = wq.heap.size := by simp only [World.size_setCell]
  have hag : ∀ bq, ¬ (bq = Px) → ∀ o, (((wq.setCell ⟨Px, 0, none⟩ (.int .i64 12)).setCell ⟨Px, 1, none⟩ (.int .i64 11)).setCell ⟨Px, 2, none⟩ (.slice (some ⟨gx, 0, none⟩) N fx)).cell? ⟨bq, o, none⟩ = wq.cell? ⟨bq, o, none⟩ := fun bq hbq o => by
    replace hbq : Px ≠ bq := fun e => hbq e.symm
    exact (World.cell?_setCell_far _ ⟨Px, 2, none⟩ ⟨bq, o, none⟩ _ hbq).trans ((World.cell?_setCell_far _ ⟨Px, 1, none⟩ ⟨bq, o, none⟩ _ hbq).trans (World.cell?_setCell_far _ ⟨Px, 0, none⟩ ⟨bq, o, none⟩ _ hbq))
  have hex : Blk (((wq.setCell ⟨Px, 0, none⟩ (.int .i64 12)).setCell ⟨Px, 1, none⟩ (.int .i64 11)).setCell ⟨Px, 2, none⟩ (.slice (some ⟨gx, 0, none⟩) N fx)) Px 46 #[.int .i64 12, .int .i64 11, .slice (some ⟨gx, 0, none⟩) N fx] ∧ Below w24.heap.size w24 (((wq.setCell ⟨Px, 0, none⟩ (.int .i64 12)).setCell ⟨Px, 1, none⟩ (.int .i64 11)).setCell ⟨Px, 2, none⟩ (.slice (some ⟨gx, 0, none⟩) N fx)) ∧ (((wq.setCell ⟨Px, 0, none⟩ (.int .i64 12)).setCell ⟨Px, 1, none⟩ (.int .i64 11)).setCell ⟨Px, 2, none⟩ (.slice (some ⟨gx, 0, none⟩) N fx)).heap.size = wq.heap.size ∧ (∀ bq, ¬ (bq = Px) → ∀ o, (((wq.setCell ⟨Px, 0, none⟩ (.int .i64 12)).setCell ⟨Px, 1, none⟩ (.int .i64 11)).setCell ⟨Px, 2, none⟩ (.slice (some ⟨gx, 0, none⟩) N fx)).cell? ⟨bq, o, none⟩ = wq.cell? ⟨bq, o, none⟩) := ⟨Kx2, hst, hsz, hag⟩
  have HZR := Lib.hid (show ∀ b, b = Px → Zero wq b by
    rintro b rfl
    exact Zero.blk Kx zero_page)
  clear Kx2 hst hsz hag
  refine HKx_.out _ _ ?_
  clear HKx_ Kx_
  revert hex
  generalize hwx : (((wq.setCell ⟨Px, 0, none⟩ (.int .i64 12)).setCell ⟨Px, 1, none⟩ (.int .i64 11)).setCell ⟨Px, 2, none⟩ (.slice (some ⟨gx, 0, none⟩) N fx)) = w30
  intro hex
  clear hwx
  clear Kx cKx0 fKx0 cKx1 fKx1 cKx2 fKx2
  obtain ⟨Kx, hst, hsz, hag⟩ := hex
  replace hXx := Pg.agree hXx.out HNP.out (fun b => b = Px) HZR.out hsz hag
  clear hsz hag HZR
  replace Ki := Ki.below hst lKi
  replace Kp := Kp.below hst lKp
  replace Km := Km.below hst lKm
  replace Ks := Ks.below hst lKs
  replace KA := KA.below hst lKA
  replace hbw := btrans hbw hst
  replace HhP := Lib.hid (HhP.out.below hst)
  replace HhAl := Lib.hid (HhAl.out.below hst)
  clear hst hst0 lKi cKi0 cKi1 cKi2 cKi3 lKp cKp0 cKp1 cKp2 lKm cKm0 cKm1 cKm2 cKm3 cKm4 cKm5 lKs cKs0 cKs1 cKs2 cKs3 cKs4 cKs5 lKA cKA0 cKA1 cKA2 hp0 hp1
  have HhXx := Lib.hid hXx
  clear hXx
  have lKi := Ki.lt
  have cKi0 := Ki.cell 0
  have cKi1 := Ki.cell 1
  have cKi2 := Ki.cell 2
  have cKi3 := Ki.cell 3
  have lKp := Kp.lt
  have cKp0 := Kp.cell 0
  have cKp1 := Kp.cell 1
  have cKp2 := Kp.cell 2
  have lKm := Km.lt
  have cKm0 := Km.cell 0
  have cKm1 := Km.cell 1
  have cKm2 := Km.cell 2
  have cKm3 := Km.cell 3
  have cKm4 := Km.cell 4
  have cKm5 := Km.cell 5
  have lKs := Ks.lt
  have cKs0 := Ks.cell 0
  have cKs1 := Ks.cell 1
  have cKs2 := Ks.cell 2
  have cKs3 := Ks.cell 3
  have cKs4 := Ks.cell 4
  have cKs5 := Ks.cell 5
  have lKA := KA.lt
  have cKA0 := KA.cell 0
  have cKA1 := KA.cell 1
  have cKA2 := KA.cell 2
  have lKx := Kx.lt
  have cKx0 := Kx.cell 0
  have cKx1 := Kx.cell 1
  have cKx2 := Kx.cell 2
  simp only [List.getElem?_toArray, List.getElem?_cons_succ, List.getElem?_cons_zero] at cKi0 cKi1 cKi2 cKi3 cKp0 cKp1 cKp2 cKm0 cKm1 cKm2 cKm3 cKm4 cKm5 cKs0 cKs1 cKs2 cKs3 cKs4 cKs5 cKA0 cKA1 cKA2 cKx0 cKx1 cKx2
  go_wp2_with fail
  refine wp_region_chainQ1 12 [11] [0, 1, 2, 3, 4, 5, 6, 7] [8] [9, 10, 11] (.cells #[.int .i64 0, .int .i64 0, .slice none 0 0] 46) _ (by kernel_rfl) (by kernel_rfl) (fun d _ _ _ _ h => by cases d <;> exact h) rfl (fun ρ w => alloc_page2 _ _ _ _ _ ρ w) ?_
  intro u0
  have uKi0 : ∀ u : Up u0.val, u.val.cell? ⟨w3.heap.size, 0, none⟩ = some (.int .i64 (W : Int)) := fun u => ((u.cell (Nat.lt_of_lt_of_le lKi u0.ok.size)).trans (u0.cell lKi)).trans cKi0
  have uKi1 : ∀ u : Up u0.val, u.val.cell? ⟨w3.heap.size, 1, none⟩ = some (.int .i64 (H : Int)) := fun u => ((u.cell (Nat.lt_of_lt_of_le lKi u0.ok.size)).trans (u0.cell lKi)).trans cKi1
  have uKi2 : ∀ u : Up u0.val, u.val.cell? ⟨w3.heap.size, 2, none⟩ = some (.int .i64 8) := fun u => ((u.cell (Nat.lt_of_lt_of_le lKi u0.ok.size)).trans (u0.cell lKi)).trans cKi2
  have uKi3 : ∀ u : Up u0.val, u.val.cell? ⟨w3.heap.size, 3, none⟩ = some (.string s) := fun u => ((u.cell (Nat.lt_of_lt_of_le lKi u0.ok.size)).trans (u0.cell lKi)).trans cKi3
  have uKs0 : ∀ u : Up u0.val, u.val.cell? ⟨Ps, 0, none⟩ = some (.int .i64 a) := fun u => ((u.cell (Nat.lt_of_lt_of_le lKs u0.ok.size)).trans (u0.cell lKs)).trans cKs0
  have uKs1 : ∀ u : Up u0.val, u.val.cell? ⟨Ps, 1, none⟩ = some (.int .i64 b) := fun u => ((u.cell (Nat.lt_of_lt_of_le lKs u0.ok.size)).trans (u0.cell lKs)).trans cKs1
  have uKs2 : ∀ u : Up u0.val, u.val.cell? ⟨Ps, 2, none⟩ = some (.int .i64 c0) := fun u => ((u.cell (Nat.lt_of_lt_of_le lKs u0.ok.size)).trans (u0.cell lKs)).trans cKs2
  have uKs3 : ∀ u : Up u0.val, u.val.cell? ⟨Ps, 3, none⟩ = some (.int .i64 d) := fun u => ((u.cell (Nat.lt_of_lt_of_le lKs u0.ok.size)).trans (u0.cell lKs)).trans cKs3
  have uKs4 : ∀ u : Up u0.val, u.val.cell? ⟨Ps, 4, none⟩ = some (.int .i64 (e + ca)) := fun u => ((u.cell (Nat.lt_of_lt_of_le lKs u0.ok.size)).trans (u0.cell lKs)).trans cKs4
  have uKs5 : ∀ u : Up u0.val, u.val.cell? ⟨Ps, 5, none⟩ = some (.int .i64 (f + cb)) := fun u => ((u.cell (Nat.lt_of_lt_of_le lKs u0.ok.size)).trans (u0.cell lKs)).trans cKs5
  have uKA0 : ∀ u : Up u0.val, u.val.cell? ⟨w23.heap.size, 0, none⟩ = some (.int .i64 12) := fun u => ((u.cell (Nat.lt_of_lt_of_le lKA u0.ok.size)).trans (u0.cell lKA)).trans cKA0
  have uKA1 : ∀ u : Up u0.val, u.val.cell? ⟨w23.heap.size, 1, none⟩ = some (.int .i64 11) := fun u => ((u.cell (Nat.lt_of_lt_of_le lKA u0.ok.size)).trans (u0.cell lKA)).trans cKA1
  have uKA2 : ∀ u : Up u0.val, u.val.cell? ⟨w23.heap.size, 2, none⟩ = some (.slice (some ⟨gA, 0, none⟩) 11 11) := fun u => ((u.cell (Nat.lt_of_lt_of_le lKA u0.ok.size)).trans (u0.cell lKA)).trans cKA2
  have uKx0 : ∀ u : Up u0.val, u.val.cell? ⟨Px, 0, none⟩ = some (.int .i64 12) := fun u => ((u.cell (Nat.lt_of_lt_of_le lKx u0.ok.size)).trans (u0.cell lKx)).trans cKx0
  have uKx1 : ∀ u : Up u0.val, u.val.cell? ⟨Px, 1, none⟩ = some (.int .i64 11) := fun u => ((u.cell (Nat.lt_of_lt_of_le lKx u0.ok.size)).trans (u0.cell lKx)).trans cKx1
  have uKx2 : ∀ u : Up u0.val, u.val.cell? ⟨Px, 2, none⟩ = some (.slice (some ⟨gx, 0, none⟩) N fx) := fun u => ((u.cell (Nat.lt_of_lt_of_le lKx u0.ok.size)).trans (u0.cell lKx)).trans cKx2
  have HU1 := Lib.hid (fun u : Up u0.val => up_of (u := u) (HC2.out u.val))
  change wpQuiet _ _ _ _ (_ :: _ :: _ :: _ :: _ :: _ :: _ :: _ :: []) _
  unfold upC
  simp only [List.getElem_toArray, List.getElem_cons_succ, List.getElem_cons_zero]
  repeat (go_big_quiet_step (fail))
  go_big_quiet_step (exact HU1.out _)
  repeat (go_big_quiet_step (fail))
  refine wpQuiet_nil ?_
  clear HU1 u0 uKi0 uKi1 uKi2 uKi3 uKs0 uKs1 uKs2 uKs3 uKs4 uKs5 uKA0 uKA1 uKA2 uKx0 uKx1 uKx2
  refine fun V1 hV1 => ?_
  refine stepV_of _ 31 #[.agg #[.int .i64 12, .int .i64 11, .slice (some ⟨gx, 0, none⟩) N fx], .agg #[.int .i64 n2, .int .i64 (H : Int), .int .i64 8, .string (partA s W c W H)], .agg #[.int .i64 a, .int .i64 b, .int .i64 c0, .int .i64 d, .int .i64 (e + ca), .int .i64 (f + cb)], .agg #[.int .i64 12, .int .i64 11, .slice (some ⟨gA, 0, none⟩) 11 11]] rfl (by kernel_rfl) (by kernel_rfl) ?_
  refine (HP2.out _ _ _ _ _ _ V1 (HhXx.out.below hV1) (HhAl.out.below hV1)).mono ?_
  rintro e_ V2 ⟨gy, fy, hgy, rfl, hX, hb2⟩
  refine ⟨_, rfl, hb2, ?_⟩
  refine fun V3 hV3 u1 => ?_
  change wpQuiet _ _ _ _ (_ :: _ :: _ :: []) _
  unfold upC
  simp only [Act.put, List.setIfInBounds_toArray, List.set_cons_zero, List.set_cons_succ, List.getElem_toArray, List.getElem_cons_succ, List.getElem_cons_zero]
  repeat (go_big_quiet_step (fail))
  refine wpQuiet_nil ?_
  clear u1
  refine fun wq hV4 Py ⟨hp0, hp1, Ky⟩ => ?_
  have hX2 := Lib.hid (hX.below (btrans hV3 hV4))
  have hst0 := btrans (btrans hV1 hb2) (btrans hV3 hV4)
  clear hX hV1 hb2 hV3 hV4
  replace Ky : Blk wq Py 46 #[.int .i64 0, .int .i64 0, .slice none 0 0] := Ky
  simp only [Act.put, List.setIfInBounds_toArray, List.set_cons_zero, List.set_cons_succ, List.drop_succ_cons, List.drop_zero]
  have hYy := hX2
  clear hX2
  have cKy0 := Ky.cell 0
  have fKy0 := Ky.frozen 0
  have cKy1 := Ky.cell 1
  have fKy1 := Ky.frozen 1
  have cKy2 := Ky.cell 2
  have fKy2 := Ky.frozen 2
  simp only [List.getElem?_toArray, List.getElem?_cons_succ, List.getElem?_cons_zero] at cKy0 cKy1 cKy2
  refine wpList_stop fun Kx_ HKx_ => ?_
  go_wp2_with fail
  have Ky2 : Blk _ Py 46 #[.int .i64 12, .int .i64 11, .slice (some ⟨gy, 0, none⟩) N fy] := blk_cast (((Ky.set_ 0 (.int .i64 12)).set_ 1 (.int .i64 11)).set_ 2 (.slice (some ⟨gy, 0, none⟩) N fy)) (by kernel_rfl)
  have hst : Below w30.heap.size w30 (((wq.setCell ⟨Py, 0, none⟩ (.int .i64 12)).setCell ⟨Py, 1, none⟩ (.int .i64 11)).setCell ⟨Py, 2, none⟩ (.slice (some ⟨gy, 0, none⟩) N fy)) := by (repeat' (first | refine bset ?_ (by first | omega | (simp <;> omega)) _ | refine balloc ?_ _ | refine Below.drew ?_ | refine below_drewN ?_ _ | exact hst0 | exact Below.refl _ _))
  have hsz : (((wq.setCell ⟨Py, 0, none⟩ (.int .i64 12)).setCell ⟨Py, 1, none⟩ (.int .i64 11)).setCell ⟨Py, 2, none⟩ (.slice (some ⟨gy, 0, none⟩) N fy)).heap.size = wq.heap.size := by simp only [World.size_setCell]
  have hag : ∀ bq, ¬ (bq = Py) → ∀ o, (((wq.setCell ⟨Py, 0, none⟩ (.int .i64 12)).setCell ⟨Py, 1, none⟩ (.int .i64 11)).setCell ⟨Py, 2, none⟩ (.slice (some ⟨gy, 0, none⟩) N fy)).cell? ⟨bq, o, none⟩ = wq.cell? ⟨bq, o, none⟩ := fun bq hbq o => by
    replace hbq : Py ≠ bq := fun e => hbq e.symm
    exact (World.cell?_setCell_far _ ⟨Py, 2, none⟩ ⟨bq, o, none⟩ _ hbq).trans ((World.cell?_setCell_far _ ⟨Py, 1, none⟩ ⟨bq, o, none⟩ _ hbq).trans (World.cell?_setCell_far _ ⟨Py, 0, none⟩ ⟨bq, o, none⟩ _ hbq))
  have hex : Blk (((wq.setCell ⟨Py, 0, none⟩ (.int .i64 12)).setCell ⟨Py, 1, none⟩ (.int .i64 11)).setCell ⟨Py, 2, none⟩ (.slice (some ⟨gy, 0, none⟩) N fy)) Py 46 #[.int .i64 12, .int .i64 11, .slice (some ⟨gy, 0, none⟩) N fy] ∧ Below w30.heap.size w30 (((wq.setCell ⟨Py, 0, none⟩ (.int .i64 12)).setCell ⟨Py, 1, none⟩ (.int .i64 11)).setCell ⟨Py, 2, none⟩ (.slice (some ⟨gy, 0, none⟩) N fy)) ∧ (((wq.setCell ⟨Py, 0, none⟩ (.int .i64 12)).setCell ⟨Py, 1, none⟩ (.int .i64 11)).setCell ⟨Py, 2, none⟩ (.slice (some ⟨gy, 0, none⟩) N fy)).heap.size = wq.heap.size ∧ (∀ bq, ¬ (bq = Py) → ∀ o, (((wq.setCell ⟨Py, 0, none⟩ (.int .i64 12)).setCell ⟨Py, 1, none⟩ (.int .i64 11)).setCell ⟨Py, 2, none⟩ (.slice (some ⟨gy, 0, none⟩) N fy)).cell? ⟨bq, o, none⟩ = wq.cell? ⟨bq, o, none⟩) := ⟨Ky2, hst, hsz, hag⟩
  have HZR := Lib.hid (show ∀ b, b = Py → Zero wq b by
    rintro b rfl
    exact Zero.blk Ky zero_page)
  clear Ky2 hst hsz hag
  refine HKx_.out _ _ ?_
  clear HKx_ Kx_
  revert hex
  generalize hwx : (((wq.setCell ⟨Py, 0, none⟩ (.int .i64 12)).setCell ⟨Py, 1, none⟩ (.int .i64 11)).setCell ⟨Py, 2, none⟩ (.slice (some ⟨gy, 0, none⟩) N fy)) = w40
  intro hex
  clear hwx
  clear Ky cKy0 fKy0 cKy1 fKy1 cKy2 fKy2
  obtain ⟨Ky, hst, hsz, hag⟩ := hex
  replace hYy := Pg.agree hYy.out HNP.out (fun b => b = Py) HZR.out hsz hag
  clear hsz hag HZR
  replace Ki := Ki.below hst lKi
  replace Kp := Kp.below hst lKp
  replace Km := Km.below hst lKm
  replace Ks := Ks.below hst lKs
  replace KA := KA.below hst lKA
  replace Kx := Kx.below hst lKx
  replace hbw := btrans hbw hst
  replace HhP := Lib.hid (HhP.out.below hst)
  replace HhAl := Lib.hid (HhAl.out.below hst)
  replace HhXx := Lib.hid (HhXx.out.below hst)
  clear hst hst0 lKi cKi0 cKi1 cKi2 cKi3 lKp cKp0 cKp1 cKp2 lKm cKm0 cKm1 cKm2 cKm3 cKm4 cKm5 lKs cKs0 cKs1 cKs2 cKs3 cKs4 cKs5 lKA cKA0 cKA1 cKA2 lKx cKx0 cKx1 cKx2 hp0 hp1
  have HhYy := Lib.hid hYy
  clear hYy
  have lKi := Ki.lt
  have cKi0 := Ki.cell 0
  have cKi1 := Ki.cell 1
  have cKi2 := Ki.cell 2
  have cKi3 := Ki.cell 3
  have lKp := Kp.lt
  have cKp0 := Kp.cell 0
  have cKp1 := Kp.cell 1
  have cKp2 := Kp.cell 2
  have lKm := Km.lt
  have cKm0 := Km.cell 0
  have cKm1 := Km.cell 1
  have cKm2 := Km.cell 2
  have cKm3 := Km.cell 3
  have cKm4 := Km.cell 4
  have cKm5 := Km.cell 5
  have lKs := Ks.lt
  have cKs0 := Ks.cell 0
  have cKs1 := Ks.cell 1
  have cKs2 := Ks.cell 2
  have cKs3 := Ks.cell 3
  have cKs4 := Ks.cell 4
  have cKs5 := Ks.cell 5
  have lKA := KA.lt
  have cKA0 := KA.cell 0
  have cKA1 := KA.cell 1
  have cKA2 := KA.cell 2
  have lKx := Kx.lt
  have cKx0 := Kx.cell 0
  have cKx1 := Kx.cell 1
  have cKx2 := Kx.cell 2
  have lKy := Ky.lt
  have cKy0 := Ky.cell 0
  have cKy1 := Ky.cell 1
  have cKy2 := Ky.cell 2
  simp only [List.getElem?_toArray, List.getElem?_cons_succ, List.getElem?_cons_zero] at cKi0 cKi1 cKi2 cKi3 cKp0 cKp1 cKp2 cKm0 cKm1 cKm2 cKm3 cKm4 cKm5 cKs0 cKs1 cKs2 cKs3 cKs4 cKs5 cKA0 cKA1 cKA2 cKx0 cKx1 cKx2 cKy0 cKy1 cKy2
  go_wp2_with fail
  have hst0 : Below w40.heap.size w40 w40 := by (repeat' (first | exact Below.refl _ _ | exact Below.refl _ _ | refine balloc ?_ _ | refine Below.drew ?_ | refine below_drewN ?_ _ | refine bset ?_ (by first | omega | (simp <;> omega)) _))
  refine (HP0.out _ _ _ _ _ _ _ (HhP.out.below hst0) (HhAl.out.below hst0)).mono ?_
  rintro e_ w41 ⟨gz, fz, hgz, rfl, hZz, hb⟩
  clear hgz
  have hst : Below w40.heap.size w40 w41 := btrans hst0 hb
  replace Ki := Ki.below hb Ki.lt
  replace Kp := Kp.below hb Kp.lt
  replace Km := Km.below hb Km.lt
  replace Ks := Ks.below hb Ks.lt
  replace KA := KA.below hb KA.lt
  replace Kx := Kx.below hb Kx.lt
  replace Ky := Ky.below hb Ky.lt
  replace hbw : Below w.heap.size w w41 := btrans hbw hst
  replace HhP := Lib.hid (HhP.out.below hst)
  replace HhAl := Lib.hid (HhAl.out.below hst)
  replace HhXx := Lib.hid (HhXx.out.below hst)
  replace HhYy := Lib.hid (HhYy.out.below hst)
  clear hst hst0 hb lKi cKi0 cKi1 cKi2 cKi3 lKp cKp0 cKp1 cKp2 lKm cKm0 cKm1 cKm2 cKm3 cKm4 cKm5 lKs cKs0 cKs1 cKs2 cKs3 cKs4 cKs5 lKA cKA0 cKA1 cKA2 lKx cKx0 cKx1 cKx2 lKy cKy0 cKy1 cKy2 Ks Kx
  have HhZz := Lib.hid hZz
  clear hZz
  have lKi := Ki.lt
  have cKi0 := Ki.cell 0
  have cKi1 := Ki.cell 1
  have cKi2 := Ki.cell 2
  have cKi3 := Ki.cell 3
  have lKp := Kp.lt
  have cKp0 := Kp.cell 0
  have cKp1 := Kp.cell 1
  have cKp2 := Kp.cell 2
  have lKm := Km.lt
  have cKm0 := Km.cell 0
  have cKm1 := Km.cell 1
  have cKm2 := Km.cell 2
  have cKm3 := Km.cell 3
  have cKm4 := Km.cell 4
  have cKm5 := Km.cell 5
  have lKA := KA.lt
  have cKA0 := KA.cell 0
  have cKA1 := KA.cell 1
  have cKA2 := KA.cell 2
  have lKy := Ky.lt
  have cKy0 := Ky.cell 0
  have cKy1 := Ky.cell 1
  have cKy2 := Ky.cell 2
  simp only [List.getElem?_toArray, List.getElem?_cons_succ, List.getElem?_cons_zero] at cKi0 cKi1 cKi2 cKi3 cKp0 cKp1 cKp2 cKm0 cKm1 cKm2 cKm3 cKm4 cKm5 cKA0 cKA1 cKA2 cKy0 cKy1 cKy2
  go_wp2_with fail
  have hst0 : Below w41.heap.size w41 (w41.alloc (.cells #[.int .i64 12, .int .i64 11, .slice (some ⟨gz, 0, none⟩) N fz] 46)) := by (repeat' (first | exact Below.refl _ _ | exact Below.refl _ _ | refine balloc ?_ _ | refine Below.drew ?_ | refine below_drewN ?_ _ | refine bset ?_ (by first | omega | (simp <;> omega)) _))
  refine (HPS.out _ _ _ _ _ _ _ (HhYy.out.below hst0) (HhZz.out.below hst0) (fun t ht => HTP.out _ _ t ht)).mono ?_
  rintro e_ w42 ⟨rfl, hb⟩
  have hst : Below w41.heap.size w41 w42 := btrans hst0 hb
  replace Ki := (Ki.alloc (.cells #[.int .i64 12, .int .i64 11, .slice (some ⟨gz, 0, none⟩) N fz] 46))
  replace Kp := (Kp.alloc (.cells #[.int .i64 12, .int .i64 11, .slice (some ⟨gz, 0, none⟩) N fz] 46))
  replace Km := (Km.alloc (.cells #[.int .i64 12, .int .i64 11, .slice (some ⟨gz, 0, none⟩) N fz] 46))
  replace KA := (KA.alloc (.cells #[.int .i64 12, .int .i64 11, .slice (some ⟨gz, 0, none⟩) N fz] 46))
  replace Ky := (Ky.alloc (.cells #[.int .i64 12, .int .i64 11, .slice (some ⟨gz, 0, none⟩) N fz] 46))
  have Kz := (Blk.new w41 46 #[.int .i64 12, .int .i64 11, .slice (some ⟨gz, 0, none⟩) N fz])
  replace Ki := Ki.below hb Ki.lt
  replace Kp := Kp.below hb Kp.lt
  replace Km := Km.below hb Km.lt
  replace KA := KA.below hb KA.lt
  replace Ky := Ky.below hb Ky.lt
  replace Kz := Kz.below hb Kz.lt
  replace hbw : Below w.heap.size w w42 := btrans hbw hst
  replace HhP := Lib.hid (HhP.out.below hst)
  replace HhAl := Lib.hid (HhAl.out.below hst)
  replace HhXx := Lib.hid (HhXx.out.below hst)
  replace HhYy := Lib.hid (HhYy.out.below hst)
  replace HhZz := Lib.hid (HhZz.out.below hst)
  clear hst hst0 hb lKi cKi0 cKi1 cKi2 cKi3 lKp cKp0 cKp1 cKp2 lKm cKm0 cKm1 cKm2 cKm3 cKm4 cKm5 lKA cKA0 cKA1 cKA2 lKy cKy0 cKy1 cKy2 Ki Kp Km KA
  have lKy := Ky.lt
  have cKy0 := Ky.cell 0
  have cKy1 := Ky.cell 1
  have cKy2 := Ky.cell 2
  have lKz := Kz.lt
  have cKz0 := Kz.cell 0
  have cKz1 := Kz.cell 1
  have cKz2 := Kz.cell 2
  simp only [List.getElem?_toArray, List.getElem?_cons_succ, List.getElem?_cons_zero] at cKy0 cKy1 cKy2 cKz0 cKz1 cKz2
  go_wp2_with fail
  go_ret
  exact ⟨rfl, by (repeat' (first | refine bset ?_ (by first | omega | (simp <;> omega)) _ | refine balloc ?_ _ | refine Below.drew ?_ | refine below_drewN ?_ _ | exact hbw | exact Below.refl _ _))⟩

theorem unit_fix8 (A : Option Addr) (n c0 : Nat) (ns : Nat → Int) (w : World) (hI : Ints w A n c0 ns) (hn : n ≤ 9223372036854775807) : ∃ a b c d : Int, (-81 ≤ a ∧ a ≤ 81) ∧ (-81 ≤ b ∧ b ≤ 81) ∧ (-81 ≤ c ∧ c ≤ 81) ∧ (-81 ≤ d ∧ d ≤ 81) ∧ (a * d - b * c = 1 ∨ a * d - b * c = -1) ∧
    ∀ W', Ints W' A n c0 ns → Calls Try.prog 29 #[.slice A n c0] W' fun ed w' => ed = .returned (.agg #[.int .i64 (a * 65536), .int .i64 (b * 65536), .int .i64 (c * 65536), .int .i64 (d * 65536), .int .i64 0, .int .i64 0]) ∧ Below W'.heap.size W' w' := by
  obtain ⟨e, w', f, ⟨a, b, c, d, hu, _, ba, bb, bc, bd, hdet, _⟩, _⟩ := unitV_any A n c0 ns w hI hn []
  refine ⟨a, b, c, d, ba, bb, bc, bd, hdet, fun W' hW => ?_⟩
  refine (unitV_any A n c0 ns W' hW hn).mono ?_
  rintro e2 w2 ⟨a', b', c', d', hu', rfl, _, _, _, _, _, hb⟩
  rw [hu] at hu'
  cases hu'
  exact ⟨rfl, hb⟩
theorem det_tile {a b c d : Int} (h : a * d - b * c = 1 ∨ a * d - b * c = -1) : ¬ (8 * (a * 65536)) * (8 * (d * 65536)) - (8 * (b * 65536)) * (8 * (c * 65536)) = 0 := by
  have e1 : (8 * (a * 65536)) * (8 * (d * 65536)) = 274877906944 * (a * d) := by
    rw [show 8 * (a * 65536) = 524288 * a by omega, show 8 * (d * 65536) = 524288 * d by omega, Int.mul_assoc, Int.mul_left_comm a, ← Int.mul_assoc]
    omega
  have e2 : (8 * (b * 65536)) * (8 * (c * 65536)) = 274877906944 * (b * c) := by
    rw [show 8 * (b * 65536) = 524288 * b by omega, show 8 * (c * 65536) = 524288 * c by omega, Int.mul_assoc, Int.mul_left_comm b, ← Int.mul_assoc]
    omega
  rw [e1, e2]
  omega
theorem itiles_law (A : Option Addr) (n cap : Nat) (ns : Nat → Int) (A2 : Option Addr) (n2_ cap2 : Nat) (ns2 : Nat → Int) (at_ dx dy : Int) (A3 : Option Addr) (n3 cap3 : Nat) (ns3 : Nat → Int) (w : World) (hr : Ints w A n cap ns) (hn : n ≤ 9223372036854775807) (hr2 : Ints w A2 n2_ cap2 ns2) (hn2 : n2_ ≤ 9223372036854775807) (_h1 : -9223372036854775808 ≤ at_ ∧ at_ ≤ 9223372036854775807) (_h2 : -9223372036854775808 ≤ dx ∧ dx ≤ 9223372036854775807) (_h3 : -9223372036854775808 ≤ dy ∧ dy ≤ 9223372036854775807) (hr3 : Ints w A3 n3 cap3 ns3) (hn3 : n3 ≤ 9223372036854775807) :
    Calls Try.prog 5 #[.slice A n cap, .slice A2 n2_ cap2, .int .i64 at_, .int .i64 dx, .int .i64 dy, .slice A3 n3 cap3] w fun ed w' => ed = .returned (.bool true) ∧ Below w.heap.size w w' := by
  obtain ⟨Wi, Hi, B, s, hB, hmay, hW9, hH9, hMd⟩ := made_b A n cap ns 3 hn
  have hB8 : B = 8 := by rw [hB]; decide
  subst hB8
  obtain ⟨_, hWb, hHb, hsz⟩ := mayI_bd hmay
  obtain ⟨W, rfl⟩ := Int.eq_ofNat_of_zero_le (show 0 ≤ Wi by omega)
  obtain ⟨H, rfl⟩ := Int.eq_ofNat_of_zero_le (show 0 ≤ Hi by omega)
  have hs : s.size = H * W := by
    rw [tile_rw _ (by omega)] at hsz
    exact_mod_cast hsz
  by_cases hW : W < 2
  · exact itiles_short A n cap ns A2 n2_ cap2 ns2 at_ dx dy A3 n3 cap3 ns3 W H s w hr hr3 hn3 (Lib.hid hMd) hW
  · obtain ⟨ta, tb, tc, td, ba, bb, bc, bd, hdet, hUn⟩ := unit_fix8 A2 n2_ cap2 ns2 w hr2 hn2
    have hPL := fun W' => place_any at_ ((W : Int) - 1) W' (by omega) (by omega)
    have hPX := fun W' => place_any dx 200 W' (by decide) (by decide)
    have hPY := fun W' => place_any dy 200 W' (by decide) (by decide)
    have k1 := Int.emod_nonneg at_ (show (W : Int) - 1 ≠ 0 by omega)
    have k2 := Int.emod_lt_of_pos at_ (show 0 < (W : Int) - 1 by omega)
    have kx : 0 ≤ dx % 200 ∧ dx % 200 < 200 := by omega
    have ky : 0 ≤ dy % 200 ∧ dy % 200 < 200 := by omega
    generalize at_ % ((W : Int) - 1) = pc at *
    generalize dx % 200 = ex at *
    generalize dy % 200 = ey at *
    obtain ⟨c, hc⟩ := Int.eq_ofNat_of_zero_le (show 0 ≤ 1 + pc by omega)
    have bl : ∀ v : Int, -81 ≤ v ∧ v ≤ 81 → -400000000 ≤ (c : Int) * (8 * (v * 65536)) ∧ (c : Int) * (8 * (v * 65536)) ≤ 400000000 := fun v hv => by
      have hc9 : c ≤ 8 := by omega
      have e : (c : Int) * (8 * (v * 65536)) = 524288 * ((c : Int) * v) := by
        rw [show 8 * (v * 65536) = 524288 * v by omega, Int.mul_left_comm]
      have m1 := Int.mul_le_mul_of_nonneg_left hv.2 (show 0 ≤ (c : Int) by omega)
      have m2 := Int.mul_le_mul_of_nonneg_left hv.1 (show 0 ≤ (c : Int) by omega)
      omega
    have la := bl ta ba
    have lb := bl tb bb
    exact itiles_walk A n cap ns A2 n2_ cap2 ns2 at_ dx dy A3 n3 cap3 ns3 W H c s w hr hr2 hr3 hn3 (Lib.hid hMd) (ta * 65536) (tb * 65536) (tc * 65536) (td * 65536) ex ey pc _ _ _ _ _ _ _ _ _ _ (by omega) (by omega) (by omega) (by omega) (by omega) (by omega) (by omega) (by omega) (by omega) (by omega) (by omega) (by omega) (by omega) (by omega)
      (Lib.hid hUn) (Lib.hid hPL) (Lib.hid fun W' => (hPX W').mono fun e w' ⟨h1, h2⟩ => ⟨h1, h2 ▸ Below.refl _ _⟩) (Lib.hid fun W' => (hPY W').mono fun e w' ⟨h1, h2⟩ => ⟨h1, h2 ▸ Below.refl _ _⟩) hc rfl rfl rfl rfl rfl rfl rfl rfl la.1 la.2 lb.1 lb.2 (by omega) (by omega) (by omega) (by omega) (by omega) (by omega) hs rfl rfl (det_tile hdet)
end Go.Proofs.Ytegpjjkbbdfggaa.im
