/-
  ScreenSays: Level and Tone of any numbers, Grey of any ink, Bits of any page: what the reference returns.
-/
import Derived.Test.YtodeebaogpepkaaBitsYes
import Derived.Test.YtodeebaogpepkaaBitsYesR
import Derived.Test.YtodeebaogpepkaaMask
namespace Go.Proofs.Ytodeebaogpepkaa.sc
set_option linter.unusedVariables false
set_option linter.unusedSimpArgs false
open Go.RowKit bs

/-- one mask and one number, which both functions give for a page -/
theorem bits_both (W H : Int) (A : Option Addr) (n c : Nat) (bs : List UInt8) (hn : n ≤ 9223372036854775807) : ∃ (X Y E : Int) (N : Nat) (l : List UInt8), (0 ≤ E ∧ E ≤ 1) ∧
    (∀ w, Bytes w A n c bs → Calls Try.prog 16 #[.agg #[.int .i64 W, .int .i64 H, .slice A n c]] w fun e w' => ∃ B d, e = .returned (.tuple #[.agg #[.int .i64 X, .int .i64 Y, .slice B N d], .int .i64 E]) ∧ Bytes w' B N d l ∧ Below w.heap.size w w') ∧
    (∀ w, Bytes w A n c bs → Calls Try.prog 17 #[.agg #[.int .i64 W, .int .i64 H, .slice A n c]] w fun e w' => ∃ B d, e = .returned (.tuple #[.agg #[.int .i64 X, .int .i64 Y, .slice B N d], .int .i64 E]) ∧ Bytes w' B N d l ∧ Below w.heap.size w w') := by
  cases h : ik.mayB W H n with
  | false => exact ⟨0, 0, 1, 0, [], by omega, fun w hr => (bits_no W H A n c w hn h).mono fun e w' ⟨he, hb⟩ => ⟨none, 0, he, Bytes.nil_, hb⟩, fun w hr => (rbits_no W H A n c w hn h).mono fun e w' ⟨he, hb⟩ => ⟨none, 0, he, Bytes.nil_, hb⟩⟩
  | true =>
    have hmm := h
    simp only [ik.mayB, ik.sideB, Bool.and_eq_true, decide_eq_true_eq, beq_iff_eq] at hmm
    obtain ⟨⟨⟨w0, w1⟩, h0, h1⟩, hnn⟩ := hmm
    obtain ⟨V, rfl⟩ := Int.eq_ofNat_of_zero_le (show 0 ≤ W by omega)
    obtain ⟨G, rfl⟩ := Int.eq_ofNat_of_zero_le (show 0 ≤ H by omega)
    have hpos : 0 < n := by
      have := Int.mul_le_mul (show 1 ≤ 3 * (V : Int) by omega) h0 (by omega) (by omega)
      omega
    have hlo : ∀ w, Bytes w A n c bs → ∀ a, A = some a → a.block < w.heap.size := fun w hr a ha => by
      obtain ⟨b, o, e, hb, _⟩ := hr.at_ hpos
      rw [e] at ha
      injection ha with ha
      subst ha
      exact hb
    exact ⟨V, G, 0, V * G, bitsL V bs (V * G), by omega,
      fun w hr => (bits_yes V G A n c _ bs w hn (by omega) (by omega) rfl h hr (hlo w hr)).mono fun e w' ⟨B, he, h2, h3⟩ => ⟨_, _, he, h2, h3⟩,
      fun w hr => (rbits_yes V G A n c _ bs w hn (by omega) (by omega) rfl h hr (hlo w hr)).mono fun e w' ⟨B, he, h2, h3⟩ => ⟨_, _, he, h2, h3⟩⟩

set_option maxRecDepth 100000 in
set_option maxHeartbeats 1600000 in
theorem says_law (i j g r k b a W H : Int) (A : Option Addr) (n c : Nat) (bs : List UInt8) (w : World) (hi : -9223372036854775808 ≤ i ∧ i ≤ 9223372036854775807) (hj : -9223372036854775808 ≤ j ∧ j ≤ 9223372036854775807) (hg : 0 ≤ g ∧ g ≤ 255)
    (hr : 0 ≤ r ∧ r ≤ 255) (hk : 0 ≤ k ∧ k ≤ 255) (hb : 0 ≤ b ∧ b ≤ 255) (ha : 0 ≤ a ∧ a ≤ 255) (hW : -9223372036854775808 ≤ W ∧ W ≤ 9223372036854775807) (hH : -9223372036854775808 ≤ H ∧ H ≤ 9223372036854775807) (hB : Bytes w A n c bs) (hn : n ≤ 9223372036854775807) :
    Calls Try.prog 6 #[.int .i64 i, .int .i64 j, .int .u8 g, .agg #[.int .u8 r, .int .u8 k, .int .u8 b, .int .u8 a], .agg #[.int .i64 W, .int .i64 H, .slice A n c]] w fun e w' => e = .returned (.bool true) ∧ Below w.heap.size w w' := by
  obtain ⟨X, Y, E, N, l, hE, h1, h2⟩ := bits_both W H A n c bs hn
  have H1 := Lib.hid h1
  have H2 := Lib.hid h2
  have HBy := Lib.hid hB
  have K1 := (Blk.new w 29 #[.int .u8 r, .int .u8 k, .int .u8 b, .int .u8 a]).alloc (.cells #[.int .i64 W, .int .i64 H, .slice A n c] 34)
  have K2 := Blk.new (w.alloc (.cells #[.int .u8 r, .int .u8 k, .int .u8 b, .int .u8 a] 29)) 34 #[.int .i64 W, .int .i64 H, .slice A n c]
  have hs1 : (w.alloc (.cells #[.int .u8 r, .int .u8 k, .int .u8 b, .int .u8 a] 29)).heap.size = w.heap.size + 1 := by simp
  rw [hs1] at K2
  clear h1 h2 hB hs1
  go_enter Try.func6, Try.ntmps6
  go_wp2_with fail
  refine (known_any _).mono ?_
  rintro e w1 ⟨rfl, hb1⟩
  replace K1 := K1.below hb1 (by simp; omega)
  replace K2 := K2.below hb1 (by simp)
  have hbw : Below w.heap.size w w1 := btrans (by (repeat' (first | exact Below.refl _ _ | exact Below.refl _ _ | refine balloc ?_ _ | refine Below.drew ?_ | refine below_drewN ?_ _ | refine bset ?_ (by first | omega | (simp <;> omega)) _))) hb1
  have l1 := K1.lt
  have l2 := K2.lt
  have hB1 := HBy.out.below hbw
  have p0 := K2.cell 0
  have p1 := K2.cell 1
  have p2 := K2.cell 2
  simp only [List.getElem?_toArray, List.getElem?_cons_succ, List.getElem?_cons_zero] at p0 p1 p2
  by_cases h15 : 15000 < n
  · go_wp2_with fail
    go_ret
    exact ⟨rfl, hbw⟩
  have HB1 := Lib.hid hB1
  have HK1 := Lib.hid K1
  have HK2 := Lib.hid K2
  clear hb1 hB1 K1 K2
  go_wp2_with fail
  refine (H1.out _ HB1.out).mono ?_
  rintro e w2 ⟨B1, d1, rfl, hM1, hb2⟩
  have K1 := HK1.out.below hb2 l1
  have K2 := HK2.out.below hb2 l2
  have hB2 := HB1.out.below hb2
  replace hbw := btrans hbw hb2
  have q0 := K2.cell 0
  have q1 := K2.cell 1
  have q2 := K2.cell 2
  simp only [List.getElem?_toArray, List.getElem?_cons_succ, List.getElem?_cons_zero] at q0 q1 q2
  have l3 := K1.lt
  have l4 := K2.lt
  have L1 := (Blk.new w2 36 #[.int .i64 X, .int .i64 Y, .slice B1 N d1])
  have HB2 := Lib.hid hB2
  have HM1 := Lib.hid hM1
  have HK3 := Lib.hid K1
  have HL1 := Lib.hid L1
  clear hb2 hB2 hM1 K1 K2 HB1 HK1 HK2 L1 p0 p1 p2 l1 l2
  go_wp2_with fail
  refine (H2.out _ (HB2.out.below (by (repeat' (first | exact Below.refl _ _ | exact Below.refl _ _ | refine balloc ?_ _ | refine Below.drew ?_ | refine below_drewN ?_ _ | refine bset ?_ (by first | omega | (simp <;> omega)) _))))).mono ?_
  rintro e w3 ⟨B2, d2, rfl, hM2, hb3⟩
  have K1 := (HK3.out.alloc (.cells #[.int .i64 X, .int .i64 Y, .slice B1 N d1] 36)).below hb3 (by simp; omega)
  have L1 := HL1.out.below hb3 (by simp)
  have hM1 := (HM1.out.below (w' := w2.alloc (.cells #[.int .i64 X, .int .i64 Y, .slice B1 N d1] 36)) (by (repeat' (first | exact Below.refl _ _ | exact Below.refl _ _ | refine balloc ?_ _ | refine Below.drew ?_ | refine below_drewN ?_ _ | refine bset ?_ (by first | omega | (simp <;> omega)) _)))).below hb3
  replace hbw : Below w.heap.size w w3 := btrans (by (repeat' (first | exact hbw | exact Below.refl _ _ | refine balloc ?_ _ | refine Below.drew ?_ | refine below_drewN ?_ _ | refine bset ?_ (by first | omega | (simp <;> omega)) _))) hb3
  have L2 := (Blk.new w3 36 #[.int .i64 X, .int .i64 Y, .slice B2 N d2])
  replace K1 := K1.alloc (.cells #[.int .i64 X, .int .i64 Y, .slice B2 N d2] 36)
  replace L1 := L1.alloc (.cells #[.int .i64 X, .int .i64 Y, .slice B2 N d2] 36)
  replace hM1 := hM1.below (w' := w3.alloc (.cells #[.int .i64 X, .int .i64 Y, .slice B2 N d2] 36)) (by (repeat' (first | exact Below.refl _ _ | exact Below.refl _ _ | refine balloc ?_ _ | refine Below.drew ?_ | refine below_drewN ?_ _ | refine bset ?_ (by first | omega | (simp <;> omega)) _)))
  replace hM2 := hM2.below (w' := w3.alloc (.cells #[.int .i64 X, .int .i64 Y, .slice B2 N d2] 36)) (by (repeat' (first | exact Below.refl _ _ | exact Below.refl _ _ | refine balloc ?_ _ | refine Below.drew ?_ | refine below_drewN ?_ _ | refine bset ?_ (by first | omega | (simp <;> omega)) _)))
  have hbz : Below w.heap.size w (w3.alloc (.cells #[.int .i64 X, .int .i64 Y, .slice B2 N d2] 36)) := by (repeat' (first | exact hbw | exact Below.refl _ _ | refine balloc ?_ _ | refine Below.drew ?_ | refine below_drewN ?_ _ | refine bset ?_ (by first | omega | (simp <;> omega)) _))
  have HK := Lib.hid K1
  have HL := Lib.hid L1
  have HL2 := Lib.hid L2
  have HM1' := Lib.hid hM1
  have HM2 := Lib.hid hM2
  clear hb3 K1 L1 L2 hM1 hM2 HB2 HM1 HK3 HL1 q0 q1 q2 l3 l4 hbw
  go_wp2_with fail
  obtain ⟨P1, hP1⟩ : ∃ P, w2.heap.size = P := ⟨_, rfl⟩
  obtain ⟨P2, hP2⟩ : ∃ P, w3.heap.size = P := ⟨_, rfl⟩
  have hK := HK.out
  have hL := HL.out
  have hL2 := HL2.out
  have hM1 := HM1'.out
  have hM2 := HM2.out
  clear HK HL HL2 HM1' HM2
  generalize hwz : (w3.alloc (.cells #[.int .i64 X, .int .i64 Y, .slice B2 N d2] 36)) = wz at *
  rw [hP1] at hL ⊢
  rw [hP2] at hL2 ⊢
  clear hwz hP1 hP2
  have k0 := hK.cell 0
  have k1 := hK.cell 1
  have k2 := hK.cell 2
  have k3 := hK.cell 3
  have s0 := hL.cell 0
  have s1 := hL.cell 1
  have s2 := hL.cell 2
  have t0 := hL2.cell 0
  have t1 := hL2.cell 1
  have t2 := hL2.cell 2
  simp only [List.getElem?_toArray, List.getElem?_cons_succ, List.getElem?_cons_zero] at k0 k1 k2 k3 s0 s1 s2 t0 t1 t2
  have lk := hK.lt
  have ls := hL.lt
  have lt := hL2.lt
  have u0 : ∀ u : Up wz, u.val.cell? ⟨w.heap.size, 0, none⟩ = some (.int .u8 r) := fun u => (u.cell lk).trans k0
  have u1 : ∀ u : Up wz, u.val.cell? ⟨w.heap.size, 1, none⟩ = some (.int .u8 k) := fun u => (u.cell lk).trans k1
  have u2 : ∀ u : Up wz, u.val.cell? ⟨w.heap.size, 2, none⟩ = some (.int .u8 b) := fun u => (u.cell lk).trans k2
  have u3 : ∀ u : Up wz, u.val.cell? ⟨w.heap.size, 3, none⟩ = some (.int .u8 a) := fun u => (u.cell lk).trans k3
  have v0 : ∀ u : Up wz, u.val.cell? ⟨P1, 0, none⟩ = some (.int .i64 X) := fun u => (u.cell ls).trans s0
  have v1 : ∀ u : Up wz, u.val.cell? ⟨P1, 1, none⟩ = some (.int .i64 Y) := fun u => (u.cell ls).trans s1
  have v2 : ∀ u : Up wz, u.val.cell? ⟨P1, 2, none⟩ = some (.slice B1 N d1) := fun u => (u.cell ls).trans s2
  have z0 : ∀ u : Up wz, u.val.cell? ⟨P2, 0, none⟩ = some (.int .i64 X) := fun u => (u.cell lt).trans t0
  have z1 : ∀ u : Up wz, u.val.cell? ⟨P2, 1, none⟩ = some (.int .i64 Y) := fun u => (u.cell lt).trans t1
  have z2 : ∀ u : Up wz, u.val.cell? ⟨P2, 2, none⟩ = some (.slice B2 N d2) := fun u => (u.cell lt).trans t2
  have hgb := grey_bd r k b hr hk hb
  have hgy := fun u : Up wz => up_of (u := u) (grey_any r k b a u.val hr hk hb)
  have hgz := fun u : Up wz => up_of (u := u) (rgrey_any r k b a u.val hr hk hb)
  generalize hGy : grey r k b = Gy at *
  have HGY := Lib.hid hgy
  have HGZ := Lib.hid hgz
  have HMM := Lib.hid (fun u : Up wz => up_of (u := u) (mask_yes X Y B1 B2 N d1 N d2 l u.val (hM1.below u.ok) (hM2.below u.ok)))
  have HT0 := Lib.hid (fun u : Up wz => up_drew (u := u) (tone_any g i j u.val hg.1 hg.2))
  have HT1 := Lib.hid (fun u : Up wz => up_same (u := u) (rtone_any g i j u.val (by omega) (by omega)))
  have HL0 := Lib.hid (fun u : Up wz => up_drew (u := u) (level_any i j u.val))
  have HL1 := Lib.hid (fun u : Up wz => up_same (u := u) (rlevel_any i j u.val))
  generalize hLv : level i j = Lv at *
  generalize hTn : tone g i j = Tn at *
  clear hLv hTn hGy hgy hgz hK hL hL2 hM1 hM2 k0 k1 k2 k3 s0 s1 s2 t0 t1 t2 H1 H2 HBy
  (refine wp_region_up (by kernel_rfl) (by kernel_rfl) ?_; (repeat (go_big_quiet_step (first | exact HL0.out _ | exact HL1.out _ | exact HT0.out _ | exact HT1.out _ | exact HGY.out _ | exact HGZ.out _ | exact HMM.out _))); refine wpQuiet_nil ?_; rintro _ ⟨uq, rfl⟩)
  go_wp2_with fail
  go_ret
  exact ⟨rfl, btrans hbz uq.ok⟩
end Go.Proofs.Ytodeebaogpepkaa.sc
