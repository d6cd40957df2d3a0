/-
  Layer 37: At, and the reference's At.
-/
import Derived.Test.YtegpjjkbbdfggaaAt
namespace Go.Proofs.Ytegpjjkbbdfggaa.im
set_option linter.unusedVariables false
set_option linter.unusedSimpArgs false
open Go.RowKit bs mt

theorem det_bd {a b c d e f : Int} (hm : mayB a b c d e f = true) : (-1152921502459363329 ≤ a * d ∧ a * d ≤ 1152921502459363329) ∧ (-1152921502459363329 ≤ b * c ∧ b * c ≤ 1152921502459363329) := by
  obtain ⟨ha, hb, hc, hd, _, _⟩ := mayB_bd hm
  exact ⟨fix_mul ha hd, fix_mul hb hc⟩
/-- the four products of a point's way back -/
theorem way_bd {a b c d e f x y : Int} (hm : mayB a b c d e f = true) (hx : -8191 ≤ x ∧ x ≤ 8191) (hy : -8191 ≤ y ∧ y ≤ 8191) :
    (-1729311893777219919 ≤ d * (x * 65536 - e) ∧ d * (x * 65536 - e) ≤ 1729311893777219919) ∧ (-1729311893777219919 ≤ c * (y * 65536 - f) ∧ c * (y * 65536 - f) ≤ 1729311893777219919) ∧
    (-1729311893777219919 ≤ a * (y * 65536 - f) ∧ a * (y * 65536 - f) ≤ 1729311893777219919) ∧ (-1729311893777219919 ≤ b * (x * 65536 - e) ∧ b * (x * 65536 - e) ≤ 1729311893777219919) := by
  obtain ⟨ha, hb, hc, hd, he, hf⟩ := mayB_bd hm
  have hp : -1610547199 ≤ x * 65536 - e ∧ x * 65536 - e ≤ 1610547199 := by omega
  have hq : -1610547199 ≤ y * 65536 - f ∧ y * 65536 - f ≤ 1610547199 := by omega
  have h1 := prod_bd hd hp
  have h2 := prod_bd hc hq
  have h3 := prod_bd ha hq
  have h4 := prod_bd hb hp
  omega
theorem coordB_true {x y : Int} (h : ¬ coordB x y = false) : (-8191 ≤ x ∧ x ≤ 8191) ∧ -8191 ≤ y ∧ y ≤ 8191 := by
  unfold coordB at h
  simp at h
  omega

theorem at_any (W H B a b c d e f t x y : Int) (s : ByteArray) (w : World) (hi : mayI W H B s.size = true) (hm : mayB a b c d e f = true) (ht : a * d - b * c = t) : Calls Try.prog 59 #[.agg #[.int .i64 W, .int .i64 H, .int .i64 B, .string s, .int .i64 a, .int .i64 b, .int .i64 c, .int .i64 d, .int .i64 e, .int .i64 f, .int .i64 t], .int .i64 x, .int .i64 y] w fun ed w' => ed = .returned (.int .i64 (atV W H B s a b c d e f x y)) ∧ Below w.heap.size w w' := by
  unfold atV
  rw [ht]
  by_cases h : t = 0 ∨ coordB x y = false
  · rw [if_pos h]
    exact at_none W H B a b c d e f t x y s w h
  · rw [if_neg h]
    have h0 : ¬ t = 0 := fun g => h (.inl g)
    obtain ⟨hx, hy⟩ := coordB_true (fun g => h (.inr g))
    obtain ⟨w1, w2, w3, w4⟩ := way_bd hm hx hy
    have hd := det_bd hm
    obtain ⟨_, _, _, _, he, hf⟩ := mayB_bd hm
    exact at_some W H B a b c d e f t x y _ _ _ _ _ _ _ _ _ s w h0 hx.1 hx.2 hy.1 hy.2 he.1 he.2 hf.1 hf.2 rfl rfl rfl rfl rfl rfl w1.1 w1.2 w2.1 w2.2 w3.1 w3.2 w4.1 w4.2
      (Lib.hid fun W' => down_any _ _ W' ⟨by omega, by omega⟩ ⟨by omega, by omega⟩ h0) (Lib.hid fun W' => down_any _ _ W' ⟨by omega, by omega⟩ ⟨by omega, by omega⟩ h0)
      (Lib.hid fun W' => sample_may W H B _ _ s W' hi)

set_option maxRecDepth 100000 in
set_option maxHeartbeats 1600000 in
theorem At_any (W H B a b c d e f x y : Int) (s : ByteArray) (w : World) (hs : (s.size : Int) ≤ 9223372036854775807) : Calls Try.prog 18 #[.agg #[.int .i64 W, .int .i64 H, .int .i64 B, .string s], .agg #[.int .i64 a, .int .i64 b, .int .i64 c, .int .i64 d, .int .i64 e, .int .i64 f], .int .i64 x, .int .i64 y] w fun ed w' => ed = .returned (.int .i64 (AtV W H B s a b c d e f x y)) ∧ Below w.heap.size w w' := by
  unfold AtV

  cases hi : mayI W H B s.size with
  | false =>
    have HL := Lib.hid (fun W' => look_no1 W H B a b c d e f s W' hs hi)
    clear hi hs
    rw [if_neg (by simp)]
    go_enter Try.func18, Try.ntmps18
    go_wp2_with fail
    refine (HL.out _).mono ?_
    rintro e_ w1 ⟨rfl, hb1⟩
    have Ki := ((Blk.new w 23 #[.int .i64 W, .int .i64 H, .int .i64 B, .string s]).alloc (.cells #[.int .i64 a, .int .i64 b, .int .i64 c, .int .i64 d, .int .i64 e, .int .i64 f] 25))
    have Km := (Blk.new (w.alloc (.cells #[.int .i64 W, .int .i64 H, .int .i64 B, .string s] 23)) 25 #[.int .i64 a, .int .i64 b, .int .i64 c, .int .i64 d, .int .i64 e, .int .i64 f])
    have hz_Km : (w.alloc (.cells #[.int .i64 W, .int .i64 H, .int .i64 B, .string s] 23)).heap.size = w.heap.size + 1 := by simp
    rw [hz_Km] at Km
    clear hz_Km
    replace Ki := Ki.below hb1 Ki.lt
    replace Km := Km.below hb1 Km.lt
    have hbw : Below w.heap.size w w1 := btrans (by (repeat' (first | exact Below.refl _ _ | exact Below.refl _ _ | refine balloc ?_ _ | refine Below.drew ?_ | refine below_drewN ?_ _ | refine bset ?_ (by first | omega | (simp <;> omega)) _))) hb1
    clear hb1 
    have lKi := Ki.lt
    have cKi0 := Ki.cell 0
    have cKi1 := Ki.cell 1
    have cKi2 := Ki.cell 2
    have cKi3 := Ki.cell 3
    have lKm := Km.lt
    have cKm0 := Km.cell 0
    have cKm1 := Km.cell 1
    have cKm2 := Km.cell 2
    have cKm3 := Km.cell 3
    have cKm4 := Km.cell 4
    have cKm5 := Km.cell 5
    simp only [List.getElem?_toArray, List.getElem?_cons_succ, List.getElem?_cons_zero] at cKi0 cKi1 cKi2 cKi3 cKm0 cKm1 cKm2 cKm3 cKm4 cKm5
    go_wp2_with fail
    go_ret
    exact ⟨rfl, by (repeat' (first | refine bset ?_ (by first | omega | (simp <;> omega)) _ | refine balloc ?_ _ | refine Below.drew ?_ | refine below_drewN ?_ _ | exact hbw | exact Below.refl _ _))⟩
  | true =>
    cases hm : mayB a b c d e f with
    | false =>
      have HL := Lib.hid (fun W' => look_no2 W H B a b c d e f s W' hs hi hm)
      clear hi hm hs
      rw [if_neg (by simp)]
      go_enter Try.func18, Try.ntmps18
      go_wp2_with fail
      refine (HL.out _).mono ?_
      rintro e_ w1 ⟨rfl, hb1⟩
      have Ki := ((Blk.new w 23 #[.int .i64 W, .int .i64 H, .int .i64 B, .string s]).alloc (.cells #[.int .i64 a, .int .i64 b, .int .i64 c, .int .i64 d, .int .i64 e, .int .i64 f] 25))
      have Km := (Blk.new (w.alloc (.cells #[.int .i64 W, .int .i64 H, .int .i64 B, .string s] 23)) 25 #[.int .i64 a, .int .i64 b, .int .i64 c, .int .i64 d, .int .i64 e, .int .i64 f])
      have hz_Km : (w.alloc (.cells #[.int .i64 W, .int .i64 H, .int .i64 B, .string s] 23)).heap.size = w.heap.size + 1 := by simp
      rw [hz_Km] at Km
      clear hz_Km
      replace Ki := Ki.below hb1 Ki.lt
      replace Km := Km.below hb1 Km.lt
      have hbw : Below w.heap.size w w1 := btrans (by (repeat' (first | exact Below.refl _ _ | exact Below.refl _ _ | refine balloc ?_ _ | refine Below.drew ?_ | refine below_drewN ?_ _ | refine bset ?_ (by first | omega | (simp <;> omega)) _))) hb1
      clear hb1 
      have lKi := Ki.lt
      have cKi0 := Ki.cell 0
      have cKi1 := Ki.cell 1
      have cKi2 := Ki.cell 2
      have cKi3 := Ki.cell 3
      have lKm := Km.lt
      have cKm0 := Km.cell 0
      have cKm1 := Km.cell 1
      have cKm2 := Km.cell 2
      have cKm3 := Km.cell 3
      have cKm4 := Km.cell 4
      have cKm5 := Km.cell 5
      simp only [List.getElem?_toArray, List.getElem?_cons_succ, List.getElem?_cons_zero] at cKi0 cKi1 cKi2 cKi3 cKm0 cKm1 cKm2 cKm3 cKm4 cKm5
      go_wp2_with fail
      go_ret
      exact ⟨rfl, by (repeat' (first | refine bset ?_ (by first | omega | (simp <;> omega)) _ | refine balloc ?_ _ | refine Below.drew ?_ | refine below_drewN ?_ _ | exact hbw | exact Below.refl _ _))⟩
    | true =>
      have hd := det_bd hm
      obtain ⟨t, ht⟩ : ∃ t, a * d - b * c = t := ⟨_, rfl⟩
      have HL := Lib.hid (fun W' => look_yes W H B a b c d e f s _ _ t W' hs hi hm rfl rfl ht hd.1.1 hd.1.2 hd.2.1 hd.2.2)
      have HA := Lib.hid (fun W' => at_any W H B a b c d e f t x y s W' hi hm ht)
      rw [if_pos (by simp)]
      generalize atV W H B s a b c d e f x y = z at *
      clear hi hm hs hd ht
      go_enter Try.func18, Try.ntmps18
      go_wp2_with fail
      refine (HL.out _).mono ?_
      rintro e_ w1 ⟨rfl, hb1⟩
      have Ki := ((Blk.new w 23 #[.int .i64 W, .int .i64 H, .int .i64 B, .string s]).alloc (.cells #[.int .i64 a, .int .i64 b, .int .i64 c, .int .i64 d, .int .i64 e, .int .i64 f] 25))
      have Km := (Blk.new (w.alloc (.cells #[.int .i64 W, .int .i64 H, .int .i64 B, .string s] 23)) 25 #[.int .i64 a, .int .i64 b, .int .i64 c, .int .i64 d, .int .i64 e, .int .i64 f])
      have hz_Km : (w.alloc (.cells #[.int .i64 W, .int .i64 H, .int .i64 B, .string s] 23)).heap.size = w.heap.size + 1 := by simp
      rw [hz_Km] at Km
      clear hz_Km
      replace Ki := Ki.below hb1 Ki.lt
      replace Km := Km.below hb1 Km.lt
      have hbw : Below w.heap.size w w1 := btrans (by (repeat' (first | exact Below.refl _ _ | exact Below.refl _ _ | refine balloc ?_ _ | refine Below.drew ?_ | refine below_drewN ?_ _ | refine bset ?_ (by first | omega | (simp <;> omega)) _))) hb1
      clear hb1 
      have lKi := Ki.lt
      have cKi0 := Ki.cell 0
      have cKi1 := Ki.cell 1
      have cKi2 := Ki.cell 2
      have cKi3 := Ki.cell 3
      have lKm := Km.lt
      have cKm0 := Km.cell 0
      have cKm1 := Km.cell 1
      have cKm2 := Km.cell 2
      have cKm3 := Km.cell 3
      have cKm4 := Km.cell 4
      have cKm5 := Km.cell 5
      simp only [List.getElem?_toArray, List.getElem?_cons_succ, List.getElem?_cons_zero] at cKi0 cKi1 cKi2 cKi3 cKm0 cKm1 cKm2 cKm3 cKm4 cKm5
      go_wp2_with fail
      refine (HA.out _).mono ?_
      rintro e_ w2 ⟨rfl, hb2⟩
      replace Ki := (Ki.alloc (.cells #[.int .i64 W, .int .i64 H, .int .i64 B, .string s, .int .i64 a, .int .i64 b, .int .i64 c, .int .i64 d, .int .i64 e, .int .i64 f, .int .i64 t] 92))
      replace Km := (Km.alloc (.cells #[.int .i64 W, .int .i64 H, .int .i64 B, .string s, .int .i64 a, .int .i64 b, .int .i64 c, .int .i64 d, .int .i64 e, .int .i64 f, .int .i64 t] 92))
      have Kv := (Blk.new w1 92 #[.int .i64 W, .int .i64 H, .int .i64 B, .string s, .int .i64 a, .int .i64 b, .int .i64 c, .int .i64 d, .int .i64 e, .int .i64 f, .int .i64 t])
      replace Ki := Ki.below hb2 Ki.lt
      replace Km := Km.below hb2 Km.lt
      replace Kv := Kv.below hb2 Kv.lt
      replace hbw : Below w.heap.size w w2 := btrans (by (repeat' (first | refine bset ?_ (by first | omega | (simp <;> omega)) _ | refine balloc ?_ _ | refine Below.drew ?_ | refine below_drewN ?_ _ | exact hbw | exact Below.refl _ _))) hb2
      clear hb2 lKi cKi0 cKi1 cKi2 cKi3 lKm cKm0 cKm1 cKm2 cKm3 cKm4 cKm5 Ki Km
      have lKv := Kv.lt
      have cKv0 := Kv.cell 0
      have cKv1 := Kv.cell 1
      have cKv2 := Kv.cell 2
      have cKv3 := Kv.cell 3
      have cKv4 := Kv.cell 4
      have cKv5 := Kv.cell 5
      have cKv6 := Kv.cell 6
      have cKv7 := Kv.cell 7
      have cKv8 := Kv.cell 8
      have cKv9 := Kv.cell 9
      have cKv10 := Kv.cell 10
      simp only [List.getElem?_toArray, List.getElem?_cons_succ, List.getElem?_cons_zero] at cKv0 cKv1 cKv2 cKv3 cKv4 cKv5 cKv6 cKv7 cKv8 cKv9 cKv10
      go_wp2_with fail
      go_ret
      exact ⟨rfl, by (repeat' (first | refine bset ?_ (by first | omega | (simp <;> omega)) _ | refine balloc ?_ _ | refine Below.drew ?_ | refine below_drewN ?_ _ | exact hbw | exact Below.refl _ _))⟩

set_option maxRecDepth 100000 in
set_option maxHeartbeats 1600000 in
theorem rAt_1 (W H B a b c d e f x y : Int) (s : ByteArray) (w : World) 
    (HI : Hid (∀ W', Calls Try.prog 15 #[.agg #[.int .i64 W, .int .i64 H, .int .i64 B, .string s]] W' fun ed w' => ed = .returned (.bool false) ∧ Below W'.heap.size W' w')) : Calls Try.prog 19 #[.agg #[.int .i64 W, .int .i64 H, .int .i64 B, .string s], .agg #[.int .i64 a, .int .i64 b, .int .i64 c, .int .i64 d, .int .i64 e, .int .i64 f], .int .i64 x, .int .i64 y] w fun ed w' => ed = .returned (.int .i64 (-1)) ∧ Below w.heap.size w w' := by
  go_enter Try.func19, Try.ntmps19
  go_wp2_with fail
  refine (HI.out _).mono ?_
  rintro e_ w1 ⟨rfl, hb1⟩
  have Ki := ((Blk.new w 23 #[.int .i64 W, .int .i64 H, .int .i64 B, .string s]).alloc (.cells #[.int .i64 a, .int .i64 b, .int .i64 c, .int .i64 d, .int .i64 e, .int .i64 f] 25))
  have Km := (Blk.new (w.alloc (.cells #[.int .i64 W, .int .i64 H, .int .i64 B, .string s] 23)) 25 #[.int .i64 a, .int .i64 b, .int .i64 c, .int .i64 d, .int .i64 e, .int .i64 f])
  have hz_Km : (w.alloc (.cells #[.int .i64 W, .int .i64 H, .int .i64 B, .string s] 23)).heap.size = w.heap.size + 1 := by simp
  rw [hz_Km] at Km
  clear hz_Km
  replace Ki := Ki.below hb1 Ki.lt
  replace Km := Km.below hb1 Km.lt
  have hbw : Below w.heap.size w w1 := btrans (by (repeat' (first | exact Below.refl _ _ | exact Below.refl _ _ | refine balloc ?_ _ | refine Below.drew ?_ | refine below_drewN ?_ _ | refine bset ?_ (by first | omega | (simp <;> omega)) _))) hb1
  clear hb1 
  have lKi := Ki.lt
  have cKi0 := Ki.cell 0
  have cKi1 := Ki.cell 1
  have cKi2 := Ki.cell 2
  have cKi3 := Ki.cell 3
  have lKm := Km.lt
  have cKm0 := Km.cell 0
  have cKm1 := Km.cell 1
  have cKm2 := Km.cell 2
  have cKm3 := Km.cell 3
  have cKm4 := Km.cell 4
  have cKm5 := Km.cell 5
  simp only [List.getElem?_toArray, List.getElem?_cons_succ, List.getElem?_cons_zero] at cKi0 cKi1 cKi2 cKi3 cKm0 cKm1 cKm2 cKm3 cKm4 cKm5
  go_wp2_with fail
  go_ret
  exact ⟨rfl, by (repeat' (first | refine bset ?_ (by first | omega | (simp <;> omega)) _ | refine balloc ?_ _ | refine Below.drew ?_ | refine below_drewN ?_ _ | exact hbw | exact Below.refl _ _))⟩

set_option maxRecDepth 100000 in
set_option maxHeartbeats 1600000 in
theorem rAt_2 (W H B a b c d e f x y : Int) (s : ByteArray) (w : World) 
    (HI : Hid (∀ W', Calls Try.prog 15 #[.agg #[.int .i64 W, .int .i64 H, .int .i64 B, .string s]] W' fun ed w' => ed = .returned (.bool true) ∧ Below W'.heap.size W' w'))
    (HN : Hid (∀ W', Calls Try.prog 60 #[.agg #[.int .i64 a, .int .i64 b, .int .i64 c, .int .i64 d, .int .i64 e, .int .i64 f]] W' fun ed w' => ed = .returned (.bool false) ∧ Below W'.heap.size W' w')) : Calls Try.prog 19 #[.agg #[.int .i64 W, .int .i64 H, .int .i64 B, .string s], .agg #[.int .i64 a, .int .i64 b, .int .i64 c, .int .i64 d, .int .i64 e, .int .i64 f], .int .i64 x, .int .i64 y] w fun ed w' => ed = .returned (.int .i64 (-1)) ∧ Below w.heap.size w w' := by
  go_enter Try.func19, Try.ntmps19
  go_wp2_with fail
  refine (HI.out _).mono ?_
  rintro e_ w1 ⟨rfl, hb1⟩
  have Ki := ((Blk.new w 23 #[.int .i64 W, .int .i64 H, .int .i64 B, .string s]).alloc (.cells #[.int .i64 a, .int .i64 b, .int .i64 c, .int .i64 d, .int .i64 e, .int .i64 f] 25))
  have Km := (Blk.new (w.alloc (.cells #[.int .i64 W, .int .i64 H, .int .i64 B, .string s] 23)) 25 #[.int .i64 a, .int .i64 b, .int .i64 c, .int .i64 d, .int .i64 e, .int .i64 f])
  have hz_Km : (w.alloc (.cells #[.int .i64 W, .int .i64 H, .int .i64 B, .string s] 23)).heap.size = w.heap.size + 1 := by simp
  rw [hz_Km] at Km
  clear hz_Km
  replace Ki := Ki.below hb1 Ki.lt
  replace Km := Km.below hb1 Km.lt
  have hbw : Below w.heap.size w w1 := btrans (by (repeat' (first | exact Below.refl _ _ | exact Below.refl _ _ | refine balloc ?_ _ | refine Below.drew ?_ | refine below_drewN ?_ _ | refine bset ?_ (by first | omega | (simp <;> omega)) _))) hb1
  clear hb1 
  have lKi := Ki.lt
  have cKi0 := Ki.cell 0
  have cKi1 := Ki.cell 1
  have cKi2 := Ki.cell 2
  have cKi3 := Ki.cell 3
  have lKm := Km.lt
  have cKm0 := Km.cell 0
  have cKm1 := Km.cell 1
  have cKm2 := Km.cell 2
  have cKm3 := Km.cell 3
  have cKm4 := Km.cell 4
  have cKm5 := Km.cell 5
  simp only [List.getElem?_toArray, List.getElem?_cons_succ, List.getElem?_cons_zero] at cKi0 cKi1 cKi2 cKi3 cKm0 cKm1 cKm2 cKm3 cKm4 cKm5
  go_wp2_with fail
  refine (HN.out _).mono ?_
  rintro e_ w2 ⟨rfl, hb2⟩
  replace Ki := Ki.below hb2 Ki.lt
  replace Km := Km.below hb2 Km.lt
  replace hbw : Below w.heap.size w w2 := btrans (by (repeat' (first | refine bset ?_ (by first | omega | (simp <;> omega)) _ | refine balloc ?_ _ | refine Below.drew ?_ | refine below_drewN ?_ _ | exact hbw | exact Below.refl _ _))) hb2
  clear hb2 lKi cKi0 cKi1 cKi2 cKi3 lKm cKm0 cKm1 cKm2 cKm3 cKm4 cKm5
  have lKi := Ki.lt
  have cKi0 := Ki.cell 0
  have cKi1 := Ki.cell 1
  have cKi2 := Ki.cell 2
  have cKi3 := Ki.cell 3
  have lKm := Km.lt
  have cKm0 := Km.cell 0
  have cKm1 := Km.cell 1
  have cKm2 := Km.cell 2
  have cKm3 := Km.cell 3
  have cKm4 := Km.cell 4
  have cKm5 := Km.cell 5
  simp only [List.getElem?_toArray, List.getElem?_cons_succ, List.getElem?_cons_zero] at cKi0 cKi1 cKi2 cKi3 cKm0 cKm1 cKm2 cKm3 cKm4 cKm5
  go_wp2_with fail
  go_ret
  exact ⟨rfl, by (repeat' (first | refine bset ?_ (by first | omega | (simp <;> omega)) _ | refine balloc ?_ _ | refine Below.drew ?_ | refine below_drewN ?_ _ | exact hbw | exact Below.refl _ _))⟩

set_option maxRecDepth 100000 in
set_option maxHeartbeats 1600000 in
theorem rAt_3 (W H B a b c d e f x y : Int) (s : ByteArray) (w : World) 
    (HI : Hid (∀ W', Calls Try.prog 15 #[.agg #[.int .i64 W, .int .i64 H, .int .i64 B, .string s]] W' fun ed w' => ed = .returned (.bool true) ∧ Below W'.heap.size W' w'))
    (HN : Hid (∀ W', Calls Try.prog 60 #[.agg #[.int .i64 a, .int .i64 b, .int .i64 c, .int .i64 d, .int .i64 e, .int .i64 f]] W' fun ed w' => ed = .returned (.bool true) ∧ Below W'.heap.size W' w'))
    (HX : Hid (∀ W', Calls Try.prog 61 #[.int .i64 x] W' fun ed w' => ed = .returned (.bool false) ∧ W' = w')) : Calls Try.prog 19 #[.agg #[.int .i64 W, .int .i64 H, .int .i64 B, .string s], .agg #[.int .i64 a, .int .i64 b, .int .i64 c, .int .i64 d, .int .i64 e, .int .i64 f], .int .i64 x, .int .i64 y] w fun ed w' => ed = .returned (.int .i64 (-1)) ∧ Below w.heap.size w w' := by
  go_enter Try.func19, Try.ntmps19
  go_wp2_with fail
  refine (HI.out _).mono ?_
  rintro e_ w1 ⟨rfl, hb1⟩
  have Ki := ((Blk.new w 23 #[.int .i64 W, .int .i64 H, .int .i64 B, .string s]).alloc (.cells #[.int .i64 a, .int .i64 b, .int .i64 c, .int .i64 d, .int .i64 e, .int .i64 f] 25))
  have Km := (Blk.new (w.alloc (.cells #[.int .i64 W, .int .i64 H, .int .i64 B, .string s] 23)) 25 #[.int .i64 a, .int .i64 b, .int .i64 c, .int .i64 d, .int .i64 e, .int .i64 f])
  have hz_Km : (w.alloc (.cells #[.int .i64 W, .int .i64 H, .int .i64 B, .string s] 23)).heap.size = w.heap.size + 1 := by simp
  rw [hz_Km] at Km
  clear hz_Km
  replace Ki := Ki.below hb1 Ki.lt
  replace Km := Km.below hb1 Km.lt
  have hbw : Below w.heap.size w w1 := btrans (by (repeat' (first | exact Below.refl _ _ | exact Below.refl _ _ | refine balloc ?_ _ | refine Below.drew ?_ | refine below_drewN ?_ _ | refine bset ?_ (by first | omega | (simp <;> omega)) _))) hb1
  clear hb1 
  have lKi := Ki.lt
  have cKi0 := Ki.cell 0
  have cKi1 := Ki.cell 1
  have cKi2 := Ki.cell 2
  have cKi3 := Ki.cell 3
  have lKm := Km.lt
  have cKm0 := Km.cell 0
  have cKm1 := Km.cell 1
  have cKm2 := Km.cell 2
  have cKm3 := Km.cell 3
  have cKm4 := Km.cell 4
  have cKm5 := Km.cell 5
  simp only [List.getElem?_toArray, List.getElem?_cons_succ, List.getElem?_cons_zero] at cKi0 cKi1 cKi2 cKi3 cKm0 cKm1 cKm2 cKm3 cKm4 cKm5
  go_wp2_with fail
  refine (HN.out _).mono ?_
  rintro e_ w2 ⟨rfl, hb2⟩
  replace Ki := Ki.below hb2 Ki.lt
  replace Km := Km.below hb2 Km.lt
  replace hbw : Below w.heap.size w w2 := btrans (by (repeat' (first | refine bset ?_ (by first | omega | (simp <;> omega)) _ | refine balloc ?_ _ | refine Below.drew ?_ | refine below_drewN ?_ _ | exact hbw | exact Below.refl _ _))) hb2
  clear hb2 lKi cKi0 cKi1 cKi2 cKi3 lKm cKm0 cKm1 cKm2 cKm3 cKm4 cKm5
  have lKi := Ki.lt
  have cKi0 := Ki.cell 0
  have cKi1 := Ki.cell 1
  have cKi2 := Ki.cell 2
  have cKi3 := Ki.cell 3
  have lKm := Km.lt
  have cKm0 := Km.cell 0
  have cKm1 := Km.cell 1
  have cKm2 := Km.cell 2
  have cKm3 := Km.cell 3
  have cKm4 := Km.cell 4
  have cKm5 := Km.cell 5
  simp only [List.getElem?_toArray, List.getElem?_cons_succ, List.getElem?_cons_zero] at cKi0 cKi1 cKi2 cKi3 cKm0 cKm1 cKm2 cKm3 cKm4 cKm5
  go_wp2_with fail
  refine (HX.out _).mono ?_
  rintro e_ w_ ⟨rfl, rfl⟩
  go_wp2_with fail
  go_ret
  exact ⟨rfl, by (repeat' (first | refine bset ?_ (by first | omega | (simp <;> omega)) _ | refine balloc ?_ _ | refine Below.drew ?_ | refine below_drewN ?_ _ | exact hbw | exact Below.refl _ _))⟩

set_option maxRecDepth 100000 in
set_option maxHeartbeats 1600000 in
theorem rAt_4 (W H B a b c d e f x y : Int) (s : ByteArray) (w : World) 
    (HI : Hid (∀ W', Calls Try.prog 15 #[.agg #[.int .i64 W, .int .i64 H, .int .i64 B, .string s]] W' fun ed w' => ed = .returned (.bool true) ∧ Below W'.heap.size W' w'))
    (HN : Hid (∀ W', Calls Try.prog 60 #[.agg #[.int .i64 a, .int .i64 b, .int .i64 c, .int .i64 d, .int .i64 e, .int .i64 f]] W' fun ed w' => ed = .returned (.bool true) ∧ Below W'.heap.size W' w'))
    (HX : Hid (∀ W', Calls Try.prog 61 #[.int .i64 x] W' fun ed w' => ed = .returned (.bool true) ∧ W' = w'))
    (HY : Hid (∀ W', Calls Try.prog 61 #[.int .i64 y] W' fun ed w' => ed = .returned (.bool false) ∧ W' = w')) : Calls Try.prog 19 #[.agg #[.int .i64 W, .int .i64 H, .int .i64 B, .string s], .agg #[.int .i64 a, .int .i64 b, .int .i64 c, .int .i64 d, .int .i64 e, .int .i64 f], .int .i64 x, .int .i64 y] w fun ed w' => ed = .returned (.int .i64 (-1)) ∧ Below w.heap.size w w' := by
  go_enter Try.func19, Try.ntmps19
  go_wp2_with fail
  refine (HI.out _).mono ?_
  rintro e_ w1 ⟨rfl, hb1⟩
  have Ki := ((Blk.new w 23 #[.int .i64 W, .int .i64 H, .int .i64 B, .string s]).alloc (.cells #[.int .i64 a, .int .i64 b, .int .i64 c, .int .i64 d, .int .i64 e, .int .i64 f] 25))
  have Km := (Blk.new (w.alloc (.cells #[.int .i64 W, .int .i64 H, .int .i64 B, .string s] 23)) 25 #[.int .i64 a, .int .i64 b, .int .i64 c, .int .i64 d, .int .i64 e, .int .i64 f])
  have hz_Km : (w.alloc (.cells #[.int .i64 W, .int .i64 H, .int .i64 B, .string s] 23)).heap.size = w.heap.size + 1 := by simp
  rw [hz_Km] at Km
  clear hz_Km
  replace Ki := Ki.below hb1 Ki.lt
  replace Km := Km.below hb1 Km.lt
  have hbw : Below w.heap.size w w1 := btrans (by (repeat' (first | exact Below.refl _ _ | exact Below.refl _ _ | refine balloc ?_ _ | refine Below.drew ?_ | refine below_drewN ?_ _ | refine bset ?_ (by first | omega | (simp <;> omega)) _))) hb1
  clear hb1 
  have lKi := Ki.lt
  have cKi0 := Ki.cell 0
  have cKi1 := Ki.cell 1
  have cKi2 := Ki.cell 2
  have cKi3 := Ki.cell 3
  have lKm := Km.lt
  have cKm0 := Km.cell 0
  have cKm1 := Km.cell 1
  have cKm2 := Km.cell 2
  have cKm3 := Km.cell 3
  have cKm4 := Km.cell 4
  have cKm5 := Km.cell 5
  simp only [List.getElem?_toArray, List.getElem?_cons_succ, List.getElem?_cons_zero] at cKi0 cKi1 cKi2 cKi3 cKm0 cKm1 cKm2 cKm3 cKm4 cKm5
  go_wp2_with fail
  refine (HN.out _).mono ?_
  rintro e_ w2 ⟨rfl, hb2⟩
  replace Ki := Ki.below hb2 Ki.lt
  replace Km := Km.below hb2 Km.lt
  replace hbw : Below w.heap.size w w2 := btrans (by (repeat' (first | refine bset ?_ (by first | omega | (simp <;> omega)) _ | refine balloc ?_ _ | refine Below.drew ?_ | refine below_drewN ?_ _ | exact hbw | exact Below.refl _ _))) hb2
  clear hb2 lKi cKi0 cKi1 cKi2 cKi3 lKm cKm0 cKm1 cKm2 cKm3 cKm4 cKm5
  have lKi := Ki.lt
  have cKi0 := Ki.cell 0
  have cKi1 := Ki.cell 1
  have cKi2 := Ki.cell 2
  have cKi3 := Ki.cell 3
  have lKm := Km.lt
  have cKm0 := Km.cell 0
  have cKm1 := Km.cell 1
  have cKm2 := Km.cell 2
  have cKm3 := Km.cell 3
  have cKm4 := Km.cell 4
  have cKm5 := Km.cell 5
  simp only [List.getElem?_toArray, List.getElem?_cons_succ, List.getElem?_cons_zero] at cKi0 cKi1 cKi2 cKi3 cKm0 cKm1 cKm2 cKm3 cKm4 cKm5
  go_wp2_with fail
  refine (HX.out _).mono ?_
  rintro e_ w_ ⟨rfl, rfl⟩
  go_wp2_with fail
  refine (HY.out _).mono ?_
  rintro e_ w_ ⟨rfl, rfl⟩
  go_wp2_with fail
  go_ret
  exact ⟨rfl, by (repeat' (first | refine bset ?_ (by first | omega | (simp <;> omega)) _ | refine balloc ?_ _ | refine Below.drew ?_ | refine below_drewN ?_ _ | exact hbw | exact Below.refl _ _))⟩

set_option maxRecDepth 100000 in
set_option maxHeartbeats 1600000 in
theorem rAt_5 (W H B a b c d e f x y t : Int) (s : ByteArray) (w : World) (h0 : t = 0)
    (HI : Hid (∀ W', Calls Try.prog 15 #[.agg #[.int .i64 W, .int .i64 H, .int .i64 B, .string s]] W' fun ed w' => ed = .returned (.bool true) ∧ Below W'.heap.size W' w'))
    (HN : Hid (∀ W', Calls Try.prog 60 #[.agg #[.int .i64 a, .int .i64 b, .int .i64 c, .int .i64 d, .int .i64 e, .int .i64 f]] W' fun ed w' => ed = .returned (.bool true) ∧ Below W'.heap.size W' w'))
    (HX : Hid (∀ W', Calls Try.prog 61 #[.int .i64 x] W' fun ed w' => ed = .returned (.bool true) ∧ W' = w'))
    (HY : Hid (∀ W', Calls Try.prog 61 #[.int .i64 y] W' fun ed w' => ed = .returned (.bool true) ∧ W' = w'))
    (HD0 : Hid (∀ W', Calls Try.prog 62 #[.agg #[.int .i64 a, .int .i64 b, .int .i64 c, .int .i64 d, .int .i64 e, .int .i64 f]] W' fun ed w' => ed = .returned (.int .i64 t) ∧ Below W'.heap.size W' w')) : Calls Try.prog 19 #[.agg #[.int .i64 W, .int .i64 H, .int .i64 B, .string s], .agg #[.int .i64 a, .int .i64 b, .int .i64 c, .int .i64 d, .int .i64 e, .int .i64 f], .int .i64 x, .int .i64 y] w fun ed w' => ed = .returned (.int .i64 (-1)) ∧ Below w.heap.size w w' := by
  go_enter Try.func19, Try.ntmps19
  go_wp2_with fail
  refine (HI.out _).mono ?_
  rintro e_ w1 ⟨rfl, hb1⟩
  have Ki := ((Blk.new w 23 #[.int .i64 W, .int .i64 H, .int .i64 B, .string s]).alloc (.cells #[.int .i64 a, .int .i64 b, .int .i64 c, .int .i64 d, .int .i64 e, .int .i64 f] 25))
  have Km := (Blk.new (w.alloc (.cells #[.int .i64 W, .int .i64 H, .int .i64 B, .string s] 23)) 25 #[.int .i64 a, .int .i64 b, .int .i64 c, .int .i64 d, .int .i64 e, .int .i64 f])
  have hz_Km : (w.alloc (.cells #[.int .i64 W, .int .i64 H, .int .i64 B, .string s] 23)).heap.size = w.heap.size + 1 := by simp
  rw [hz_Km] at Km
  clear hz_Km
  replace Ki := Ki.below hb1 Ki.lt
  replace Km := Km.below hb1 Km.lt
  have hbw : Below w.heap.size w w1 := btrans (by (repeat' (first | exact Below.refl _ _ | exact Below.refl _ _ | refine balloc ?_ _ | refine Below.drew ?_ | refine below_drewN ?_ _ | refine bset ?_ (by first | omega | (simp <;> omega)) _))) hb1
  clear hb1 
  have lKi := Ki.lt
  have cKi0 := Ki.cell 0
  have cKi1 := Ki.cell 1
  have cKi2 := Ki.cell 2
  have cKi3 := Ki.cell 3
  have lKm := Km.lt
  have cKm0 := Km.cell 0
  have cKm1 := Km.cell 1
  have cKm2 := Km.cell 2
  have cKm3 := Km.cell 3
  have cKm4 := Km.cell 4
  have cKm5 := Km.cell 5
  simp only [List.getElem?_toArray, List.getElem?_cons_succ, List.getElem?_cons_zero] at cKi0 cKi1 cKi2 cKi3 cKm0 cKm1 cKm2 cKm3 cKm4 cKm5
  go_wp2_with fail
  refine (HN.out _).mono ?_
  rintro e_ w2 ⟨rfl, hb2⟩
  replace Ki := Ki.below hb2 Ki.lt
  replace Km := Km.below hb2 Km.lt
  replace hbw : Below w.heap.size w w2 := btrans (by (repeat' (first | refine bset ?_ (by first | omega | (simp <;> omega)) _ | refine balloc ?_ _ | refine Below.drew ?_ | refine below_drewN ?_ _ | exact hbw | exact Below.refl _ _))) hb2
  clear hb2 lKi cKi0 cKi1 cKi2 cKi3 lKm cKm0 cKm1 cKm2 cKm3 cKm4 cKm5
  have lKi := Ki.lt
  have cKi0 := Ki.cell 0
  have cKi1 := Ki.cell 1
  have cKi2 := Ki.cell 2
  have cKi3 := Ki.cell 3
  have lKm := Km.lt
  have cKm0 := Km.cell 0
  have cKm1 := Km.cell 1
  have cKm2 := Km.cell 2
  have cKm3 := Km.cell 3
  have cKm4 := Km.cell 4
  have cKm5 := Km.cell 5
  simp only [List.getElem?_toArray, List.getElem?_cons_succ, List.getElem?_cons_zero] at cKi0 cKi1 cKi2 cKi3 cKm0 cKm1 cKm2 cKm3 cKm4 cKm5
  go_wp2_with fail
  refine (HX.out _).mono ?_
  rintro e_ w_ ⟨rfl, rfl⟩
  go_wp2_with fail
  refine (HY.out _).mono ?_
  rintro e_ w_ ⟨rfl, rfl⟩
  go_wp2_with fail
  refine (HD0.out _).mono ?_
  rintro e_ w3 ⟨rfl, hb3⟩
  replace Ki := Ki.below hb3 Ki.lt
  replace Km := Km.below hb3 Km.lt
  replace hbw : Below w.heap.size w w3 := btrans (by (repeat' (first | refine bset ?_ (by first | omega | (simp <;> omega)) _ | refine balloc ?_ _ | refine Below.drew ?_ | refine below_drewN ?_ _ | exact hbw | exact Below.refl _ _))) hb3
  clear hb3 lKi cKi0 cKi1 cKi2 cKi3 lKm cKm0 cKm1 cKm2 cKm3 cKm4 cKm5
  have lKi := Ki.lt
  have cKi0 := Ki.cell 0
  have cKi1 := Ki.cell 1
  have cKi2 := Ki.cell 2
  have cKi3 := Ki.cell 3
  have lKm := Km.lt
  have cKm0 := Km.cell 0
  have cKm1 := Km.cell 1
  have cKm2 := Km.cell 2
  have cKm3 := Km.cell 3
  have cKm4 := Km.cell 4
  have cKm5 := Km.cell 5
  simp only [List.getElem?_toArray, List.getElem?_cons_succ, List.getElem?_cons_zero] at cKi0 cKi1 cKi2 cKi3 cKm0 cKm1 cKm2 cKm3 cKm4 cKm5
  go_wp2_with fail
  go_ret
  exact ⟨rfl, by (repeat' (first | refine bset ?_ (by first | omega | (simp <;> omega)) _ | refine balloc ?_ _ | refine Below.drew ?_ | refine below_drewN ?_ _ | exact hbw | exact Below.refl _ _))⟩

set_option maxRecDepth 100000 in
set_option maxHeartbeats 1600000 in
theorem rAt_6 (W H B a b c d e f x y t p q p1 p2 p3 p4 u v z : Int) (s : ByteArray) (w : World) (h0 : ¬ t = 0) (x0 : -8191 ≤ x) (x1 : x ≤ 8191) (y0 : -8191 ≤ y) (y1 : y ≤ 8191) (e0 : -1073741823 ≤ e) (e1 : e ≤ 1073741823) (f0 : -1073741823 ≤ f) (f1 : f ≤ 1073741823) (hp : x * 65536 - e = p) (hq : y * 65536 - f = q) (h1 : d * p = p1) (h2 : c * q = p2) (h3 : a * q = p3) (h4 : b * p = p4) (b10 : -1729311893777219919 ≤ p1) (b11 : p1 ≤ 1729311893777219919) (b20 : -1729311893777219919 ≤ p2) (b21 : p2 ≤ 1729311893777219919) (b30 : -1729311893777219919 ≤ p3) (b31 : p3 ≤ 1729311893777219919) (b40 : -1729311893777219919 ≤ p4) (b41 : p4 ≤ 1729311893777219919)
    (HI : Hid (∀ W', Calls Try.prog 15 #[.agg #[.int .i64 W, .int .i64 H, .int .i64 B, .string s]] W' fun ed w' => ed = .returned (.bool true) ∧ Below W'.heap.size W' w'))
    (HN : Hid (∀ W', Calls Try.prog 60 #[.agg #[.int .i64 a, .int .i64 b, .int .i64 c, .int .i64 d, .int .i64 e, .int .i64 f]] W' fun ed w' => ed = .returned (.bool true) ∧ Below W'.heap.size W' w'))
    (HX : Hid (∀ W', Calls Try.prog 61 #[.int .i64 x] W' fun ed w' => ed = .returned (.bool true) ∧ W' = w'))
    (HY : Hid (∀ W', Calls Try.prog 61 #[.int .i64 y] W' fun ed w' => ed = .returned (.bool true) ∧ W' = w'))
    (HD0 : Hid (∀ W', Calls Try.prog 62 #[.agg #[.int .i64 a, .int .i64 b, .int .i64 c, .int .i64 d, .int .i64 e, .int .i64 f]] W' fun ed w' => ed = .returned (.int .i64 t) ∧ Below W'.heap.size W' w'))
    (HD1 : Hid (∀ W', Calls Try.prog 63 #[.int .i64 (p1 - p2), .int .i64 t] W' fun ed w' => ed = .returned (.int .i64 u) ∧ W' = w'))
    (HD2 : Hid (∀ W', Calls Try.prog 63 #[.int .i64 (p3 - p4), .int .i64 t] W' fun ed w' => ed = .returned (.int .i64 v) ∧ W' = w'))
    (HS : Hid (∀ W', Calls Try.prog 17 #[.agg #[.int .i64 W, .int .i64 H, .int .i64 B, .string s], .int .i64 u, .int .i64 v] W' fun ed w' => ed = .returned (.int .i64 z) ∧ Below W'.heap.size W' w')) : Calls Try.prog 19 #[.agg #[.int .i64 W, .int .i64 H, .int .i64 B, .string s], .agg #[.int .i64 a, .int .i64 b, .int .i64 c, .int .i64 d, .int .i64 e, .int .i64 f], .int .i64 x, .int .i64 y] w fun ed w' => ed = .returned (.int .i64 z) ∧ Below w.heap.size w w' := by
  go_enter Try.func19, Try.ntmps19
  go_wp2_with fail
  refine (HI.out _).mono ?_
  rintro e_ w1 ⟨rfl, hb1⟩
  have Ki := ((Blk.new w 23 #[.int .i64 W, .int .i64 H, .int .i64 B, .string s]).alloc (.cells #[.int .i64 a, .int .i64 b, .int .i64 c, .int .i64 d, .int .i64 e, .int .i64 f] 25))
  have Km := (Blk.new (w.alloc (.cells #[.int .i64 W, .int .i64 H, .int .i64 B, .string s] 23)) 25 #[.int .i64 a, .int .i64 b, .int .i64 c, .int .i64 d, .int .i64 e, .int .i64 f])
  have hz_Km : (w.alloc (.cells #[.int .i64 W, .int .i64 H, .int .i64 B, .string s] 23)).heap.size = w.heap.size + 1 := by simp
  rw [hz_Km] at Km
  clear hz_Km
  replace Ki := Ki.below hb1 Ki.lt
  replace Km := Km.below hb1 Km.lt
  have hbw : Below w.heap.size w w1 := btrans (by (repeat' (first | exact Below.refl _ _ | exact Below.refl _ _ | refine balloc ?_ _ | refine Below.drew ?_ | refine below_drewN ?_ _ | refine bset ?_ (by first | omega | (simp <;> omega)) _))) hb1
  clear hb1 
  have lKi := Ki.lt
  have cKi0 := Ki.cell 0
  have cKi1 := Ki.cell 1
  have cKi2 := Ki.cell 2
  have cKi3 := Ki.cell 3
  have lKm := Km.lt
  have cKm0 := Km.cell 0
  have cKm1 := Km.cell 1
  have cKm2 := Km.cell 2
  have cKm3 := Km.cell 3
  have cKm4 := Km.cell 4
  have cKm5 := Km.cell 5
  simp only [List.getElem?_toArray, List.getElem?_cons_succ, List.getElem?_cons_zero] at cKi0 cKi1 cKi2 cKi3 cKm0 cKm1 cKm2 cKm3 cKm4 cKm5
  go_wp2_with fail
  refine (HN.out _).mono ?_
  rintro e_ w2 ⟨rfl, hb2⟩
  replace Ki := Ki.below hb2 Ki.lt
  replace Km := Km.below hb2 Km.lt
  replace hbw : Below w.heap.size w w2 := btrans (by (repeat' (first | refine bset ?_ (by first | omega | (simp <;> omega)) _ | refine balloc ?_ _ | refine Below.drew ?_ | refine below_drewN ?_ _ | exact hbw | exact Below.refl _ _))) hb2
  clear hb2 lKi cKi0 cKi1 cKi2 cKi3 lKm cKm0 cKm1 cKm2 cKm3 cKm4 cKm5
  have lKi := Ki.lt
  have cKi0 := Ki.cell 0
  have cKi1 := Ki.cell 1
  have cKi2 := Ki.cell 2
  have cKi3 := Ki.cell 3
  have lKm := Km.lt
  have cKm0 := Km.cell 0
  have cKm1 := Km.cell 1
  have cKm2 := Km.cell 2
  have cKm3 := Km.cell 3
  have cKm4 := Km.cell 4
  have cKm5 := Km.cell 5
  simp only [List.getElem?_toArray, List.getElem?_cons_succ, List.getElem?_cons_zero] at cKi0 cKi1 cKi2 cKi3 cKm0 cKm1 cKm2 cKm3 cKm4 cKm5
  go_wp2_with fail
  refine (HX.out _).mono ?_
  rintro e_ w_ ⟨rfl, rfl⟩
  go_wp2_with fail
  refine (HY.out _).mono ?_
  rintro e_ w_ ⟨rfl, rfl⟩
  go_wp2_with fail
  refine (HD0.out _).mono ?_
  rintro e_ w3 ⟨rfl, hb3⟩
  replace Ki := Ki.below hb3 Ki.lt
  replace Km := Km.below hb3 Km.lt
  replace hbw : Below w.heap.size w w3 := btrans (by (repeat' (first | refine bset ?_ (by first | omega | (simp <;> omega)) _ | refine balloc ?_ _ | refine Below.drew ?_ | refine below_drewN ?_ _ | exact hbw | exact Below.refl _ _))) hb3
  clear hb3 lKi cKi0 cKi1 cKi2 cKi3 lKm cKm0 cKm1 cKm2 cKm3 cKm4 cKm5
  have lKi := Ki.lt
  have cKi0 := Ki.cell 0
  have cKi1 := Ki.cell 1
  have cKi2 := Ki.cell 2
  have cKi3 := Ki.cell 3
  have lKm := Km.lt
  have cKm0 := Km.cell 0
  have cKm1 := Km.cell 1
  have cKm2 := Km.cell 2
  have cKm3 := Km.cell 3
  have cKm4 := Km.cell 4
  have cKm5 := Km.cell 5
  simp only [List.getElem?_toArray, List.getElem?_cons_succ, List.getElem?_cons_zero] at cKi0 cKi1 cKi2 cKi3 cKm0 cKm1 cKm2 cKm3 cKm4 cKm5
  have z0 : (t == 0) = false := by simp; exact h0
  go_wp2_with fail
  have uKi0 : ∀ u : Up w3, u.val.cell? ⟨w.heap.size, 0, none⟩ = some (.int .i64 W) := fun u => (u.cell lKi).trans cKi0
  have uKi1 : ∀ u : Up w3, u.val.cell? ⟨w.heap.size, 1, none⟩ = some (.int .i64 H) := fun u => (u.cell lKi).trans cKi1
  have uKi2 : ∀ u : Up w3, u.val.cell? ⟨w.heap.size, 2, none⟩ = some (.int .i64 B) := fun u => (u.cell lKi).trans cKi2
  have uKi3 : ∀ u : Up w3, u.val.cell? ⟨w.heap.size, 3, none⟩ = some (.string s) := fun u => (u.cell lKi).trans cKi3
  have uKm0 : ∀ u : Up w3, u.val.cell? ⟨(w.heap.size + 1), 0, none⟩ = some (.int .i64 a) := fun u => (u.cell lKm).trans cKm0
  have uKm1 : ∀ u : Up w3, u.val.cell? ⟨(w.heap.size + 1), 1, none⟩ = some (.int .i64 b) := fun u => (u.cell lKm).trans cKm1
  have uKm2 : ∀ u : Up w3, u.val.cell? ⟨(w.heap.size + 1), 2, none⟩ = some (.int .i64 c) := fun u => (u.cell lKm).trans cKm2
  have uKm3 : ∀ u : Up w3, u.val.cell? ⟨(w.heap.size + 1), 3, none⟩ = some (.int .i64 d) := fun u => (u.cell lKm).trans cKm3
  have uKm4 : ∀ u : Up w3, u.val.cell? ⟨(w.heap.size + 1), 4, none⟩ = some (.int .i64 e) := fun u => (u.cell lKm).trans cKm4
  have uKm5 : ∀ u : Up w3, u.val.cell? ⟨(w.heap.size + 1), 5, none⟩ = some (.int .i64 f) := fun u => (u.cell lKm).trans cKm5
  refine wp_region_up (by kernel_rfl) (by kernel_rfl) ?_
  repeat (go_big_quiet_step (fail))
  refine wpQuiet_nil ?_
  rintro _ ⟨uq, rfl⟩
  replace Ki := Ki.below uq.ok lKi
  replace Km := Km.below uq.ok lKm
  replace hbw := btrans hbw uq.ok
  generalize hwx : uq.val = w4 at *
  clear hwx uq lKi cKi0 cKi1 cKi2 cKi3 lKm cKm0 cKm1 cKm2 cKm3 cKm4 cKm5 uKi0 uKi1 uKi2 uKi3 uKm0 uKm1 uKm2 uKm3 uKm4 uKm5
  have lKi := Ki.lt
  have cKi0 := Ki.cell 0
  have cKi1 := Ki.cell 1
  have cKi2 := Ki.cell 2
  have cKi3 := Ki.cell 3
  have lKm := Km.lt
  have cKm0 := Km.cell 0
  have cKm1 := Km.cell 1
  have cKm2 := Km.cell 2
  have cKm3 := Km.cell 3
  have cKm4 := Km.cell 4
  have cKm5 := Km.cell 5
  simp only [List.getElem?_toArray, List.getElem?_cons_succ, List.getElem?_cons_zero] at cKi0 cKi1 cKi2 cKi3 cKm0 cKm1 cKm2 cKm3 cKm4 cKm5
  go_wp2_with fail
  have uKi0 : ∀ u : Up w4, u.val.cell? ⟨w.heap.size, 0, none⟩ = some (.int .i64 W) := fun u => (u.cell lKi).trans cKi0
  have uKi1 : ∀ u : Up w4, u.val.cell? ⟨w.heap.size, 1, none⟩ = some (.int .i64 H) := fun u => (u.cell lKi).trans cKi1
  have uKi2 : ∀ u : Up w4, u.val.cell? ⟨w.heap.size, 2, none⟩ = some (.int .i64 B) := fun u => (u.cell lKi).trans cKi2
  have uKi3 : ∀ u : Up w4, u.val.cell? ⟨w.heap.size, 3, none⟩ = some (.string s) := fun u => (u.cell lKi).trans cKi3
  have uKm0 : ∀ u : Up w4, u.val.cell? ⟨(w.heap.size + 1), 0, none⟩ = some (.int .i64 a) := fun u => (u.cell lKm).trans cKm0
  have uKm1 : ∀ u : Up w4, u.val.cell? ⟨(w.heap.size + 1), 1, none⟩ = some (.int .i64 b) := fun u => (u.cell lKm).trans cKm1
  have uKm2 : ∀ u : Up w4, u.val.cell? ⟨(w.heap.size + 1), 2, none⟩ = some (.int .i64 c) := fun u => (u.cell lKm).trans cKm2
  have uKm3 : ∀ u : Up w4, u.val.cell? ⟨(w.heap.size + 1), 3, none⟩ = some (.int .i64 d) := fun u => (u.cell lKm).trans cKm3
  have uKm4 : ∀ u : Up w4, u.val.cell? ⟨(w.heap.size + 1), 4, none⟩ = some (.int .i64 e) := fun u => (u.cell lKm).trans cKm4
  have uKm5 : ∀ u : Up w4, u.val.cell? ⟨(w.heap.size + 1), 5, none⟩ = some (.int .i64 f) := fun u => (u.cell lKm).trans cKm5
  have HU1 := Lib.hid (fun u : Up w4 => up_same (u := u) (HD1.out u.val))
  have HU2 := Lib.hid (fun u : Up w4 => up_same (u := u) (HD2.out u.val))
  have HU3 := Lib.hid (fun u : Up w4 => up_of (u := u) (HS.out u.val))
  refine wp_region_up (by kernel_rfl) (by kernel_rfl) ?_
  repeat (go_big_quiet_step (fail))
  go_big_quiet_step (exact HU1.out _)
  repeat (go_big_quiet_step (fail))
  go_big_quiet_step (exact HU2.out _)
  repeat (go_big_quiet_step (fail))
  go_big_quiet_step (exact HU3.out _)
  repeat (go_big_quiet_step (fail))
  refine wpQuiet_nil ?_
  rintro _ ⟨uq, rfl⟩
  replace hbw := btrans hbw uq.ok
  generalize hwx : uq.val = w5 at *
  clear hwx uq Ki Km lKi cKi0 cKi1 cKi2 cKi3 lKm cKm0 cKm1 cKm2 cKm3 cKm4 cKm5 uKi0 uKi1 uKi2 uKi3 uKm0 uKm1 uKm2 uKm3 uKm4 uKm5 HU1 HU2 HU3
  go_wp2_with fail
  go_ret
  exact ⟨rfl, hbw⟩

theorem rAt_any (W H B a b c d e f x y : Int) (s : ByteArray) (w : World) (hs : (s.size : Int) ≤ 9223372036854775807) : Calls Try.prog 19 #[.agg #[.int .i64 W, .int .i64 H, .int .i64 B, .string s], .agg #[.int .i64 a, .int .i64 b, .int .i64 c, .int .i64 d, .int .i64 e, .int .i64 f], .int .i64 x, .int .i64 y] w fun ed w' => ed = .returned (.int .i64 (AtV W H B s a b c d e f x y)) ∧ Below w.heap.size w w' := by
  unfold AtV
  cases hi : mayI W H B s.size with
  | false =>
    rw [if_neg (by simp)]
    exact rAt_1 W H B a b c d e f x y s w (Lib.hid fun W' => by have := rmay37_any W H B s W' hs; rwa [hi] at this)
  | true =>
    cases hm : mayB a b c d e f with
    | false =>
      rw [if_neg (by simp)]
      exact rAt_2 W H B a b c d e f x y s w (Lib.hid fun W' => by have := rmay37_any W H B s W' hs; rwa [hi] at this) (Lib.hid fun W' => by have := rmay_any a b c d e f W'; rwa [hm] at this)
    | true =>
      rw [if_pos (by simp)]
      unfold atV
      cases hx : (decide (-8191 ≤ x) && decide (x ≤ 8191)) with
      | false =>
        rw [if_pos (.inr (by unfold coordB; rw [hx]; rfl))]
        exact rAt_3 W H B a b c d e f x y s w (Lib.hid fun W' => by have := rmay37_any W H B s W' hs; rwa [hi] at this) (Lib.hid fun W' => by have := rmay_any a b c d e f W'; rwa [hm] at this) (Lib.hid fun W' => by have := rcoord_any x W'; rwa [hx] at this)
      | true =>
        cases hy : (decide (-8191 ≤ y) && decide (y ≤ 8191)) with
        | false =>
          rw [if_pos (.inr (by unfold coordB; rw [hx, Bool.true_and, hy]))]
          exact rAt_4 W H B a b c d e f x y s w (Lib.hid fun W' => by have := rmay37_any W H B s W' hs; rwa [hi] at this) (Lib.hid fun W' => by have := rmay_any a b c d e f W'; rwa [hm] at this) (Lib.hid fun W' => by have := rcoord_any x W'; rwa [hx] at this) (Lib.hid fun W' => by have := rcoord_any y W'; rwa [hy] at this)
        | true =>
          have hd := det_bd hm
          have hxx : -8191 ≤ x ∧ x ≤ 8191 := by simpa using hx
          have hyy : -8191 ≤ y ∧ y ≤ 8191 := by simpa using hy
          by_cases h0 : a * d - b * c = 0
          · rw [if_pos (.inl h0)]
            exact rAt_5 W H B a b c d e f x y _ s w h0 (Lib.hid fun W' => by have := rmay37_any W H B s W' hs; rwa [hi] at this) (Lib.hid fun W' => by have := rmay_any a b c d e f W'; rwa [hm] at this) (Lib.hid fun W' => by have := rcoord_any x W'; rwa [hx] at this) (Lib.hid fun W' => by have := rcoord_any y W'; rwa [hy] at this) (Lib.hid fun W' => rdet_any a b c d e f W' hm)
          · rw [if_neg (by rintro (h | h); exact h0 h; unfold coordB at h; rw [hx, Bool.true_and, hy] at h; cases h)]
            obtain ⟨w1, w2, w3, w4⟩ := way_bd hm hxx hyy
            obtain ⟨_, _, _, _, he, hf⟩ := mayB_bd hm
            exact rAt_6 W H B a b c d e f x y _ _ _ _ _ _ _ _ _ _ s w h0 hxx.1 hxx.2 hyy.1 hyy.2 he.1 he.2 hf.1 hf.2 rfl rfl rfl rfl rfl rfl w1.1 w1.2 w2.1 w2.2 w3.1 w3.2 w4.1 w4.2 (Lib.hid fun W' => by have := rmay37_any W H B s W' hs; rwa [hi] at this) (Lib.hid fun W' => by have := rmay_any a b c d e f W'; rwa [hm] at this) (Lib.hid fun W' => by have := rcoord_any x W'; rwa [hx] at this) (Lib.hid fun W' => by have := rcoord_any y W'; rwa [hy] at this) (Lib.hid fun W' => rdet_any a b c d e f W' hm)
              (Lib.hid fun W' => rdiv_any _ _ W' ⟨by omega, by omega⟩ ⟨by omega, by omega⟩ h0) (Lib.hid fun W' => rdiv_any _ _ W' ⟨by omega, by omega⟩ ⟨by omega, by omega⟩ h0)
              (Lib.hid fun W' => rsample_may W H B _ _ s W' hi hs)

end Go.Proofs.Ytegpjjkbbdfggaa.im
