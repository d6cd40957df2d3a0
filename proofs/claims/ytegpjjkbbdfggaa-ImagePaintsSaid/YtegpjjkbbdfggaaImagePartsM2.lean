/-
  Lemmas for ImageParts: At2, Step, IntL, Line, Line2, KnownI, TurnI, OpenIntsM, Made, UpTail, Made2, Bd, SpanPlain, Rl, Of, Runs.
-/
import Derived.Lib.SmallJoins
import Derived.Deep.Slices
import Derived.Deep.Fields
import Derived.StillTail
import Derived.Laws.Tables
import Derived.Deep.WholeRow
import Derived.Test.YtegpjjkbbdfggaaImagePartsM1

/-
  Layer 37: At, and the reference's At.
-/
namespace Go.Proofs.Ytegpjjkbbdfggaa.im
set_option linter.unusedVariables false
set_option linter.unusedSimpArgs false
open Go.RowKit bs mt

theorem det_bd {a b c d e f : Int} (hm : mayB a b c d e f = true) : (-1152921502459363329 ≤ a * d ∧ a * d ≤ 1152921502459363329) ∧ (-1152921502459363329 ≤ b * c ∧ b * c ≤ 1152921502459363329) := by
  obtain ⟨ha, hb, hc, hd, _, _⟩ := mayB_bd hm
  exact ⟨fix_mul ha hd, fix_mul hb hc⟩
/-- the four products of a point's way back -/
theorem way_bd {a b c d e f x y : Int} (hm : mayB a b c d e f = true) (hx : -8191 ≤ x ∧ x ≤ 8191) (hy : -8191 ≤ y ∧ y ≤ 8191) :
    (-1729311893777219919 ≤ d * (x * 65536 - e) ∧ d * (x * 65536 - e) ≤ 1729311893777219919) ∧ (-1729311893777219919 ≤ c * (y * 65536 - f) ∧ c * (y * 65536 - f) ≤ 1729311893777219919) ∧
    (-1729311893777219919 ≤ a * (y * 65536 - f) ∧ a * (y * 65536 - f) ≤ 1729311893777219919) ∧ (-1729311893777219919 ≤ b * (x * 65536 - e) ∧ b * (x * 65536 - e) ≤ 1729311893777219919) := by
  obtain ⟨ha, hb, hc, hd, he, hf⟩ := mayB_bd hm
  have hp : -1610547199 ≤ x * 65536 - e ∧ x * 65536 - e ≤ 1610547199 := by omega
  have hq : -1610547199 ≤ y * 65536 - f ∧ y * 65536 - f ≤ 1610547199 := by omega
  have h1 := prod_bd hd hp
  have h2 := prod_bd hc hq
  have h3 := prod_bd ha hq
  have h4 := prod_bd hb hp
  omega
theorem coordB_true {x y : Int} (h : ¬ coordB x y = false) : (-8191 ≤ x ∧ x ≤ 8191) ∧ -8191 ≤ y ∧ y ≤ 8191 := by
  unfold coordB at h
  simp at h
  omega

theorem at_any (W H B a b c d e f t x y : Int) (s : ByteArray) (w : World) (hi : mayI W H B s.size = true) (hm : mayB a b c d e f = true) (ht : a * d - b * c = t) : Calls Try.prog 59 #[.agg #[.int .i64 W, .int .i64 H, .int .i64 B, .string s, .int .i64 a, .int .i64 b, .int .i64 c, .int .i64 d, .int .i64 e, .int .i64 f, .int .i64 t], .int .i64 x, .int .i64 y] w fun ed w' => ed = .returned (.int .i64 (atV W H B s a b c d e f x y)) ∧ Below w.heap.size w w' := by
  unfold atV
  rw [ht]
  by_cases h : t = 0 ∨ coordB x y = false
  · rw [if_pos h]
    exact at_none W H B a b c d e f t x y s w h
  · rw [if_neg h]
    have h0 : ¬ t = 0 := fun g => h (.inl g)
    obtain ⟨hx, hy⟩ := coordB_true (fun g => h (.inr g))
    obtain ⟨w1, w2, w3, w4⟩ := way_bd hm hx hy
    have hd := det_bd hm
    obtain ⟨_, _, _, _, he, hf⟩ := mayB_bd hm
    exact at_some W H B a b c d e f t x y _ _ _ _ _ _ _ _ _ s w h0 hx.1 hx.2 hy.1 hy.2 he.1 he.2 hf.1 hf.2 rfl rfl rfl rfl rfl rfl w1.1 w1.2 w2.1 w2.2 w3.1 w3.2 w4.1 w4.2
      (Lib.hid fun W' => down_any _ _ W' ⟨by omega, by omega⟩ ⟨by omega, by omega⟩ h0) (Lib.hid fun W' => down_any _ _ W' ⟨by omega, by omega⟩ ⟨by omega, by omega⟩ h0)
      (Lib.hid fun W' => sample_may W H B _ _ s W' hi)

set_option maxRecDepth 100000 in
set_option maxHeartbeats 1600000 in
theorem At_any (W H B a b c d e f x y : Int) (s : ByteArray) (w : World) (hs : (s.size : Int) ≤ 9223372036854775807) : Calls Try.prog 18 #[.agg #[.int .i64 W, .int .i64 H, .int .i64 B, .string s], .agg #[.int .i64 a, .int .i64 b, .int .i64 c, .int .i64 d, .int .i64 e, .int .i64 f], .int .i64 x, .int .i64 y] w fun ed w' => ed = .returned (.int .i64 (AtV W H B s a b c d e f x y)) ∧ Below w.heap.size w w' := by
  unfold AtV

  cases hi : mayI W H B s.size with
  | false =>
    have HL := Lib.hid (fun W' => look_no1 W H B a b c d e f s W' hs hi)
    clear hi hs
    rw [if_neg (by simp)]
    go_enter Try.func18, Try.ntmps18
    go_wp2_with fail
    refine (HL.out _).mono ?_
    rintro e_ w1 ⟨rfl, hb1⟩
    have Ki := ((Blk.new w 23 #[.int .i64 W, .int .i64 H, .int .i64 B, .string s]).alloc (.cells #[.int .i64 a, .int .i64 b, .int .i64 c, .int .i64 d, .int .i64 e, .int .i64 f] 25))
    have Km := (Blk.new (w.alloc (.cells #[.int .i64 W, .int .i64 H, .int .i64 B, .string s] 23)) 25 #[.int .i64 a, .int .i64 b, .int .i64 c, .int .i64 d, .int .i64 e, .int .i64 f])
    have hz_Km : (w.alloc (.cells #[.int .i64 W, .int .i64 H, .int .i64 B, .string s] 23)).heap.size = w.heap.size + 1 := by simp
    rw [hz_Km] at Km
    clear hz_Km
    replace Ki := Ki.below hb1 Ki.lt
    replace Km := Km.below hb1 Km.lt
    have hbw : Below w.heap.size w w1 := btrans (by (repeat' (first | exact Below.refl _ _ | exact Below.refl _ _ | refine balloc ?_ _ | refine Below.drew ?_ | refine below_drewN ?_ _ | refine bset ?_ (by first | omega | (simp <;> omega)) _))) hb1
    clear hb1 
    have lKi := Ki.lt
    have cKi0 := Ki.cell 0
    have cKi1 := Ki.cell 1
    have cKi2 := Ki.cell 2
    have cKi3 := Ki.cell 3
    have lKm := Km.lt
    have cKm0 := Km.cell 0
    have cKm1 := Km.cell 1
    have cKm2 := Km.cell 2
    have cKm3 := Km.cell 3
    have cKm4 := Km.cell 4
    have cKm5 := Km.cell 5
    simp only [List.getElem?_toArray, List.getElem?_cons_succ, List.getElem?_cons_zero] at cKi0 cKi1 cKi2 cKi3 cKm0 cKm1 cKm2 cKm3 cKm4 cKm5
    go_wp2_with fail
    go_ret
    exact ⟨rfl, by (repeat' (first | refine bset ?_ (by first | omega | (simp <;> omega)) _ | refine balloc ?_ _ | refine Below.drew ?_ | refine below_drewN ?_ _ | exact hbw | exact Below.refl _ _))⟩
  | true =>
    cases hm : mayB a b c d e f with
    | false =>
      have HL := Lib.hid (fun W' => look_no2 W H B a b c d e f s W' hs hi hm)
      clear hi hm hs
      rw [if_neg (by simp)]
      go_enter Try.func18, Try.ntmps18
      go_wp2_with fail
      refine (HL.out _).mono ?_
      rintro e_ w1 ⟨rfl, hb1⟩
      have Ki := ((Blk.new w 23 #[.int .i64 W, .int .i64 H, .int .i64 B, .string s]).alloc (.cells #[.int .i64 a, .int .i64 b, .int .i64 c, .int .i64 d, .int .i64 e, .int .i64 f] 25))
      have Km := (Blk.new (w.alloc (.cells #[.int .i64 W, .int .i64 H, .int .i64 B, .string s] 23)) 25 #[.int .i64 a, .int .i64 b, .int .i64 c, .int .i64 d, .int .i64 e, .int .i64 f])
      have hz_Km : (w.alloc (.cells #[.int .i64 W, .int .i64 H, .int .i64 B, .string s] 23)).heap.size = w.heap.size + 1 := by simp
      rw [hz_Km] at Km
      clear hz_Km
      replace Ki := Ki.below hb1 Ki.lt
      replace Km := Km.below hb1 Km.lt
      have hbw : Below w.heap.size w w1 := btrans (by (repeat' (first | exact Below.refl _ _ | exact Below.refl _ _ | refine balloc ?_ _ | refine Below.drew ?_ | refine below_drewN ?_ _ | refine bset ?_ (by first | omega | (simp <;> omega)) _))) hb1
      clear hb1 
      have lKi := Ki.lt
      have cKi0 := Ki.cell 0
      have cKi1 := Ki.cell 1
      have cKi2 := Ki.cell 2
      have cKi3 := Ki.cell 3
      have lKm := Km.lt
      have cKm0 := Km.cell 0
      have cKm1 := Km.cell 1
      have cKm2 := Km.cell 2
      have cKm3 := Km.cell 3
      have cKm4 := Km.cell 4
      have cKm5 := Km.cell 5
      simp only [List.getElem?_toArray, List.getElem?_cons_succ, List.getElem?_cons_zero] at cKi0 cKi1 cKi2 cKi3 cKm0 cKm1 cKm2 cKm3 cKm4 cKm5
      go_wp2_with fail
      go_ret
      exact ⟨rfl, by (repeat' (first | refine bset ?_ (by first | omega | (simp <;> omega)) _ | refine balloc ?_ _ | refine Below.drew ?_ | refine below_drewN ?_ _ | exact hbw | exact Below.refl _ _))⟩
    | true =>
      have hd := det_bd hm
      obtain ⟨t, ht⟩ : ∃ t, a * d - b * c = t := ⟨_, rfl⟩
      have HL := Lib.hid (fun W' => look_yes W H B a b c d e f s _ _ t W' hs hi hm rfl rfl ht hd.1.1 hd.1.2 hd.2.1 hd.2.2)
      have HA := Lib.hid (fun W' => at_any W H B a b c d e f t x y s W' hi hm ht)
      rw [if_pos (by simp)]
      generalize atV W H B s a b c d e f x y = z at *
      clear hi hm hs hd ht
      go_enter Try.func18, Try.ntmps18
      go_wp2_with fail
      refine (HL.out _).mono ?_
      rintro e_ w1 ⟨rfl, hb1⟩
      have Ki := ((Blk.new w 23 #[.int .i64 W, .int .i64 H, .int .i64 B, .string s]).alloc (.cells #[.int .i64 a, .int .i64 b, .int .i64 c, .int .i64 d, .int .i64 e, .int .i64 f] 25))
      have Km := (Blk.new (w.alloc (.cells #[.int .i64 W, .int .i64 H, .int .i64 B, .string s] 23)) 25 #[.int .i64 a, .int .i64 b, .int .i64 c, .int .i64 d, .int .i64 e, .int .i64 f])
      have hz_Km : (w.alloc (.cells #[.int .i64 W, .int .i64 H, .int .i64 B, .string s] 23)).heap.size = w.heap.size + 1 := by simp
      rw [hz_Km] at Km
      clear hz_Km
      replace Ki := Ki.below hb1 Ki.lt
      replace Km := Km.below hb1 Km.lt
      have hbw : Below w.heap.size w w1 := btrans (by (repeat' (first | exact Below.refl _ _ | exact Below.refl _ _ | refine balloc ?_ _ | refine Below.drew ?_ | refine below_drewN ?_ _ | refine bset ?_ (by first | omega | (simp <;> omega)) _))) hb1
      clear hb1 
      have lKi := Ki.lt
      have cKi0 := Ki.cell 0
      have cKi1 := Ki.cell 1
      have cKi2 := Ki.cell 2
      have cKi3 := Ki.cell 3
      have lKm := Km.lt
      have cKm0 := Km.cell 0
      have cKm1 := Km.cell 1
      have cKm2 := Km.cell 2
      have cKm3 := Km.cell 3
      have cKm4 := Km.cell 4
      have cKm5 := Km.cell 5
      simp only [List.getElem?_toArray, List.getElem?_cons_succ, List.getElem?_cons_zero] at cKi0 cKi1 cKi2 cKi3 cKm0 cKm1 cKm2 cKm3 cKm4 cKm5
      go_wp2_with fail
      refine (HA.out _).mono ?_
      rintro e_ w2 ⟨rfl, hb2⟩
      replace Ki := (Ki.alloc (.cells #[.int .i64 W, .int .i64 H, .int .i64 B, .string s, .int .i64 a, .int .i64 b, .int .i64 c, .int .i64 d, .int .i64 e, .int .i64 f, .int .i64 t] 92))
      replace Km := (Km.alloc (.cells #[.int .i64 W, .int .i64 H, .int .i64 B, .string s, .int .i64 a, .int .i64 b, .int .i64 c, .int .i64 d, .int .i64 e, .int .i64 f, .int .i64 t] 92))
      have Kv := (Blk.new w1 92 #[.int .i64 W, .int .i64 H, .int .i64 B, .string s, .int .i64 a, .int .i64 b, .int .i64 c, .int .i64 d, .int .i64 e, .int .i64 f, .int .i64 t])
      replace Ki := Ki.below hb2 Ki.lt
      replace Km := Km.below hb2 Km.lt
      replace Kv := Kv.below hb2 Kv.lt
      replace hbw : Below w.heap.size w w2 := btrans (by (repeat' (first | refine bset ?_ (by first | omega | (simp <;> omega)) _ | refine balloc ?_ _ | refine Below.drew ?_ | refine below_drewN ?_ _ | exact hbw | exact Below.refl _ _))) hb2
      clear hb2 lKi cKi0 cKi1 cKi2 cKi3 lKm cKm0 cKm1 cKm2 cKm3 cKm4 cKm5 Ki Km
      have lKv := Kv.lt
      have cKv0 := Kv.cell 0
      have cKv1 := Kv.cell 1
      have cKv2 := Kv.cell 2
      have cKv3 := Kv.cell 3
      have cKv4 := Kv.cell 4
      have cKv5 := Kv.cell 5
      have cKv6 := Kv.cell 6
      have cKv7 := Kv.cell 7
      have cKv8 := Kv.cell 8
      have cKv9 := Kv.cell 9
      have cKv10 := Kv.cell 10
      simp only [List.getElem?_toArray, List.getElem?_cons_succ, List.getElem?_cons_zero] at cKv0 cKv1 cKv2 cKv3 cKv4 cKv5 cKv6 cKv7 cKv8 cKv9 cKv10
      go_wp2_with fail
      go_ret
      exact ⟨rfl, by (repeat' (first | refine bset ?_ (by first | omega | (simp <;> omega)) _ | refine balloc ?_ _ | refine Below.drew ?_ | refine below_drewN ?_ _ | exact hbw | exact Below.refl _ _))⟩

set_option maxRecDepth 100000 in
set_option maxHeartbeats 1600000 in
theorem rAt_1 (W H B a b c d e f x y : Int) (s : ByteArray) (w : World) 
    (HI : Hid (∀ W', Calls Try.prog 15 #[.agg #[.int .i64 W, .int .i64 H, .int .i64 B, .string s]] W' fun ed w' => ed = .returned (.bool false) ∧ Below W'.heap.size W' w')) : Calls Try.prog 19 #[.agg #[.int .i64 W, .int .i64 H, .int .i64 B, .string s], .agg #[.int .i64 a, .int .i64 b, .int .i64 c, .int .i64 d, .int .i64 e, .int .i64 f], .int .i64 x, .int .i64 y] w fun ed w' => ed = .returned (.int .i64 (-1)) ∧ Below w.heap.size w w' := by
  go_enter Try.func19, Try.ntmps19
  go_wp2_with fail
  refine (HI.out _).mono ?_
  rintro e_ w1 ⟨rfl, hb1⟩
  have Ki := ((Blk.new w 23 #[.int .i64 W, .int .i64 H, .int .i64 B, .string s]).alloc (.cells #[.int .i64 a, .int .i64 b, .int .i64 c, .int .i64 d, .int .i64 e, .int .i64 f] 25))
  have Km := (Blk.new (w.alloc (.cells #[.int .i64 W, .int .i64 H, .int .i64 B, .string s] 23)) 25 #[.int .i64 a, .int .i64 b, .int .i64 c, .int .i64 d, .int .i64 e, .int .i64 f])
  have hz_Km : (w.alloc (.cells #[.int .i64 W, .int .i64 H, .int .i64 B, .string s] 23)).heap.size = w.heap.size + 1 := by simp
  rw [hz_Km] at Km
  clear hz_Km
  replace Ki := Ki.below hb1 Ki.lt
  replace Km := Km.below hb1 Km.lt
  have hbw : Below w.heap.size w w1 := btrans (by (repeat' (first | exact Below.refl _ _ | exact Below.refl _ _ | refine balloc ?_ _ | refine Below.drew ?_ | refine below_drewN ?_ _ | refine bset ?_ (by first | omega | (simp <;> omega)) _))) hb1
  clear hb1 
  have lKi := Ki.lt
  have cKi0 := Ki.cell 0
  have cKi1 := Ki.cell 1
  have cKi2 := Ki.cell 2
  have cKi3 := Ki.cell 3
  have lKm := Km.lt
  have cKm0 := Km.cell 0
  have cKm1 := Km.cell 1
  have cKm2 := Km.cell 2
  have cKm3 := Km.cell 3
  have cKm4 := Km.cell 4
  have cKm5 := Km.cell 5
  simp only [List.getElem?_toArray, List.getElem?_cons_succ, List.getElem?_cons_zero] at cKi0 cKi1 cKi2 cKi3 cKm0 cKm1 cKm2 cKm3 cKm4 cKm5
  go_wp2_with fail
  go_ret
  exact ⟨rfl, by (repeat' (first | refine bset ?_ (by first | omega | (simp <;> omega)) _ | refine balloc ?_ _ | refine Below.drew ?_ | refine below_drewN ?_ _ | exact hbw | exact Below.refl _ _))⟩

set_option maxRecDepth 100000 in
set_option maxHeartbeats 1600000 in
theorem rAt_2 (W H B a b c d e f x y : Int) (s : ByteArray) (w : World) 
    (HI : Hid (∀ W', Calls Try.prog 15 #[.agg #[.int .i64 W, .int .i64 H, .int .i64 B, .string s]] W' fun ed w' => ed = .returned (.bool true) ∧ Below W'.heap.size W' w'))
    (HN : Hid (∀ W', Calls Try.prog 60 #[.agg #[.int .i64 a, .int .i64 b, .int .i64 c, .int .i64 d, .int .i64 e, .int .i64 f]] W' fun ed w' => ed = .returned (.bool false) ∧ Below W'.heap.size W' w')) : Calls Try.prog 19 #[.agg #[.int .i64 W, .int .i64 H, .int .i64 B, .string s], .agg #[.int .i64 a, .int .i64 b, .int .i64 c, .int .i64 d, .int .i64 e, .int .i64 f], .int .i64 x, .int .i64 y] w fun ed w' => ed = .returned (.int .i64 (-1)) ∧ Below w.heap.size w w' := by
  go_enter Try.func19, Try.ntmps19
  go_wp2_with fail
  refine (HI.out _).mono ?_
  rintro e_ w1 ⟨rfl, hb1⟩
  have Ki := ((Blk.new w 23 #[.int .i64 W, .int .i64 H, .int .i64 B, .string s]).alloc (.cells #[.int .i64 a, .int .i64 b, .int .i64 c, .int .i64 d, .int .i64 e, .int .i64 f] 25))
  have Km := (Blk.new (w.alloc (.cells #[.int .i64 W, .int .i64 H, .int .i64 B, .string s] 23)) 25 #[.int .i64 a, .int .i64 b, .int .i64 c, .int .i64 d, .int .i64 e, .int .i64 f])
  have hz_Km : (w.alloc (.cells #[.int .i64 W, .int .i64 H, .int .i64 B, .string s] 23)).heap.size = w.heap.size + 1 := by simp
  rw [hz_Km] at Km
  clear hz_Km
  replace Ki := Ki.below hb1 Ki.lt
  replace Km := Km.below hb1 Km.lt
  have hbw : Below w.heap.size w w1 := btrans (by (repeat' (first | exact Below.refl _ _ | exact Below.refl _ _ | refine balloc ?_ _ | refine Below.drew ?_ | refine below_drewN ?_ _ | refine bset ?_ (by first | omega | (simp <;> omega)) _))) hb1
  clear hb1 
  have lKi := Ki.lt
  have cKi0 := Ki.cell 0
  have cKi1 := Ki.cell 1
  have cKi2 := Ki.cell 2
  have cKi3 := Ki.cell 3
  have lKm := Km.lt
  have cKm0 := Km.cell 0
  have cKm1 := Km.cell 1
  have cKm2 := Km.cell 2
  have cKm3 := Km.cell 3
  have cKm4 := Km.cell 4
  have cKm5 := Km.cell 5
  simp only [List.getElem?_toArray, List.getElem?_cons_succ, List.getElem?_cons_zero] at cKi0 cKi1 cKi2 cKi3 cKm0 cKm1 cKm2 cKm3 cKm4 cKm5
  go_wp2_with fail
  refine (HN.out _).mono ?_
  rintro e_ w2 ⟨rfl, hb2⟩
  replace Ki := Ki.below hb2 Ki.lt
  replace Km := Km.below hb2 Km.lt
  replace hbw : Below w.heap.size w w2 := btrans (by (repeat' (first | refine bset ?_ (by first | omega | (simp <;> omega)) _ | refine balloc ?_ _ | refine Below.drew ?_ | refine below_drewN ?_ _ | exact hbw | exact Below.refl _ _))) hb2
  clear hb2 lKi cKi0 cKi1 cKi2 cKi3 lKm cKm0 cKm1 cKm2 cKm3 cKm4 cKm5
  have lKi := Ki.lt
  have cKi0 := Ki.cell 0
  have cKi1 := Ki.cell 1
  have cKi2 := Ki.cell 2
  have cKi3 := Ki.cell 3
  have lKm := Km.lt
  have cKm0 := Km.cell 0
  have cKm1 := Km.cell 1
  have cKm2 := Km.cell 2
  have cKm3 := Km.cell 3
  have cKm4 := Km.cell 4
  have cKm5 := Km.cell 5
  simp only [List.getElem?_toArray, List.getElem?_cons_succ, List.getElem?_cons_zero] at cKi0 cKi1 cKi2 cKi3 cKm0 cKm1 cKm2 cKm3 cKm4 cKm5
  go_wp2_with fail
  go_ret
  exact ⟨rfl, by (repeat' (first | refine bset ?_ (by first | omega | (simp <;> omega)) _ | refine balloc ?_ _ | refine Below.drew ?_ | refine below_drewN ?_ _ | exact hbw | exact Below.refl _ _))⟩

set_option maxRecDepth 100000 in
set_option maxHeartbeats 1600000 in
theorem rAt_3 (W H B a b c d e f x y : Int) (s : ByteArray) (w : World) 
    (HI : Hid (∀ W', Calls Try.prog 15 #[.agg #[.int .i64 W, .int .i64 H, .int .i64 B, .string s]] W' fun ed w' => ed = .returned (.bool true) ∧ Below W'.heap.size W' w'))
    (HN : Hid (∀ W', Calls Try.prog 60 #[.agg #[.int .i64 a, .int .i64 b, .int .i64 c, .int .i64 d, .int .i64 e, .int .i64 f]] W' fun ed w' => ed = .returned (.bool true) ∧ Below W'.heap.size W' w'))
    (HX : Hid (∀ W', Calls Try.prog 61 #[.int .i64 x] W' fun ed w' => ed = .returned (.bool false) ∧ W' = w')) : Calls Try.prog 19 #[.agg #[.int .i64 W, .int .i64 H, .int .i64 B, .string s], .agg #[.int .i64 a, .int .i64 b, .int .i64 c, .int .i64 d, .int .i64 e, .int .i64 f], .int .i64 x, .int .i64 y] w fun ed w' => ed = .returned (.int .i64 (-1)) ∧ Below w.heap.size w w' := by
  go_enter Try.func19, Try.ntmps19
  go_wp2_with fail
  refine (HI.out _).mono ?_
  rintro e_ w1 ⟨rfl, hb1⟩
  have Ki := ((Blk.new w 23 #[.int .i64 W, .int .i64 H, .int .i64 B, .string s]).alloc (.cells #[.int .i64 a, .int .i64 b, .int .i64 c, .int .i64 d, .int .i64 e, .int .i64 f] 25))
  have Km := (Blk.new (w.alloc (.cells #[.int .i64 W, .int .i64 H, .int .i64 B, .string s] 23)) 25 #[.int .i64 a, .int .i64 b, .int .i64 c, .int .i64 d, .int .i64 e, .int .i64 f])
  have hz_Km : (w.alloc (.cells #[.int .i64 W, .int .i64 H, .int .i64 B, .string s] 23)).heap.size = w.heap.size + 1 := by simp
  rw [hz_Km] at Km
  clear hz_Km
  replace Ki := Ki.below hb1 Ki.lt
  replace Km := Km.below hb1 Km.lt
  have hbw : Below w.heap.size w w1 := btrans (by (repeat' (first | exact Below.refl _ _ | exact Below.refl _ _ | refine balloc ?_ _ | refine Below.drew ?_ | refine below_drewN ?_ _ | refine bset ?_ (by first | omega | (simp <;> omega)) _))) hb1
  clear hb1 
  have lKi := Ki.lt
  have cKi0 := Ki.cell 0
  have cKi1 := Ki.cell 1
  have cKi2 := Ki.cell 2
  have cKi3 := Ki.cell 3
  have lKm := Km.lt
  have cKm0 := Km.cell 0
  have cKm1 := Km.cell 1
  have cKm2 := Km.cell 2
  have cKm3 := Km.cell 3
  have cKm4 := Km.cell 4
  have cKm5 := Km.cell 5
  simp only [List.getElem?_toArray, List.getElem?_cons_succ, List.getElem?_cons_zero] at cKi0 cKi1 cKi2 cKi3 cKm0 cKm1 cKm2 cKm3 cKm4 cKm5
  go_wp2_with fail
  refine (HN.out _).mono ?_
  rintro e_ w2 ⟨rfl, hb2⟩
  replace Ki := Ki.below hb2 Ki.lt
  replace Km := Km.below hb2 Km.lt
  replace hbw : Below w.heap.size w w2 := btrans (by (repeat' (first | refine bset ?_ (by first | omega | (simp <;> omega)) _ | refine balloc ?_ _ | refine Below.drew ?_ | refine below_drewN ?_ _ | exact hbw | exact Below.refl _ _))) hb2
  clear hb2 lKi cKi0 cKi1 cKi2 cKi3 lKm cKm0 cKm1 cKm2 cKm3 cKm4 cKm5
  have lKi := Ki.lt
  have cKi0 := Ki.cell 0
  have cKi1 := Ki.cell 1
  have cKi2 := Ki.cell 2
  have cKi3 := Ki.cell 3
  have lKm := Km.lt
  have cKm0 := Km.cell 0
  have cKm1 := Km.cell 1
  have cKm2 := Km.cell 2
  have cKm3 := Km.cell 3
  have cKm4 := Km.cell 4
  have cKm5 := Km.cell 5
  simp only [List.getElem?_toArray, List.getElem?_cons_succ, List.getElem?_cons_zero] at cKi0 cKi1 cKi2 cKi3 cKm0 cKm1 cKm2 cKm3 cKm4 cKm5
  go_wp2_with fail
  refine (HX.out _).mono ?_
  rintro e_ w_ ⟨rfl, rfl⟩
  go_wp2_with fail
  go_ret
  exact ⟨rfl, by (repeat' (first | refine bset ?_ (by first | omega | (simp <;> omega)) _ | refine balloc ?_ _ | refine Below.drew ?_ | refine below_drewN ?_ _ | exact hbw | exact Below.refl _ _))⟩

set_option maxRecDepth 100000 in
set_option maxHeartbeats 1600000 in
theorem rAt_4 (W H B a b c d e f x y : Int) (s : ByteArray) (w : World) 
    (HI : Hid (∀ W', Calls Try.prog 15 #[.agg #[.int .i64 W, .int .i64 H, .int .i64 B, .string s]] W' fun ed w' => ed = .returned (.bool true) ∧ Below W'.heap.size W' w'))
    (HN : Hid (∀ W', Calls Try.prog 60 #[.agg #[.int .i64 a, .int .i64 b, .int .i64 c, .int .i64 d, .int .i64 e, .int .i64 f]] W' fun ed w' => ed = .returned (.bool true) ∧ Below W'.heap.size W' w'))
    (HX : Hid (∀ W', Calls Try.prog 61 #[.int .i64 x] W' fun ed w' => ed = .returned (.bool true) ∧ W' = w'))
    (HY : Hid (∀ W', Calls Try.prog 61 #[.int .i64 y] W' fun ed w' => ed = .returned (.bool false) ∧ W' = w')) : Calls Try.prog 19 #[.agg #[.int .i64 W, .int .i64 H, .int .i64 B, .string s], .agg #[.int .i64 a, .int .i64 b, .int .i64 c, .int .i64 d, .int .i64 e, .int .i64 f], .int .i64 x, .int .i64 y] w fun ed w' => ed = .returned (.int .i64 (-1)) ∧ Below w.heap.size w w' := by
  go_enter Try.func19, Try.ntmps19
  go_wp2_with fail
  refine (HI.out _).mono ?_
  rintro e_ w1 ⟨rfl, hb1⟩
  have Ki := ((Blk.new w 23 #[.int .i64 W, .int .i64 H, .int .i64 B, .string s]).alloc (.cells #[.int .i64 a, .int .i64 b, .int .i64 c, .int .i64 d, .int .i64 e, .int .i64 f] 25))
  have Km := (Blk.new (w.alloc (.cells #[.int .i64 W, .int .i64 H, .int .i64 B, .string s] 23)) 25 #[.int .i64 a, .int .i64 b, .int .i64 c, .int .i64 d, .int .i64 e, .int .i64 f])
  have hz_Km : (w.alloc (.cells #[.int .i64 W, .int .i64 H, .int .i64 B, .string s] 23)).heap.size = w.heap.size + 1 := by simp
  rw [hz_Km] at Km
  clear hz_Km
  replace Ki := Ki.below hb1 Ki.lt
  replace Km := Km.below hb1 Km.lt
  have hbw : Below w.heap.size w w1 := btrans (by (repeat' (first | exact Below.refl _ _ | exact Below.refl _ _ | refine balloc ?_ _ | refine Below.drew ?_ | refine below_drewN ?_ _ | refine bset ?_ (by first | omega | (simp <;> omega)) _))) hb1
  clear hb1 
  have lKi := Ki.lt
  have cKi0 := Ki.cell 0
  have cKi1 := Ki.cell 1
  have cKi2 := Ki.cell 2
  have cKi3 := Ki.cell 3
  have lKm := Km.lt
  have cKm0 := Km.cell 0
  have cKm1 := Km.cell 1
  have cKm2 := Km.cell 2
  have cKm3 := Km.cell 3
  have cKm4 := Km.cell 4
  have cKm5 := Km.cell 5
  simp only [List.getElem?_toArray, List.getElem?_cons_succ, List.getElem?_cons_zero] at cKi0 cKi1 cKi2 cKi3 cKm0 cKm1 cKm2 cKm3 cKm4 cKm5
  go_wp2_with fail
  refine (HN.out _).mono ?_
  rintro e_ w2 ⟨rfl, hb2⟩
  replace Ki := Ki.below hb2 Ki.lt
  replace Km := Km.below hb2 Km.lt
  replace hbw : Below w.heap.size w w2 := btrans (by (repeat' (first | refine bset ?_ (by first | omega | (simp <;> omega)) _ | refine balloc ?_ _ | refine Below.drew ?_ | refine below_drewN ?_ _ | exact hbw | exact Below.refl _ _))) hb2
  clear hb2 lKi cKi0 cKi1 cKi2 cKi3 lKm cKm0 cKm1 cKm2 cKm3 cKm4 cKm5
  have lKi := Ki.lt
  have cKi0 := Ki.cell 0
  have cKi1 := Ki.cell 1
  have cKi2 := Ki.cell 2
  have cKi3 := Ki.cell 3
  have lKm := Km.lt
  have cKm0 := Km.cell 0
  have cKm1 := Km.cell 1
  have cKm2 := Km.cell 2
  have cKm3 := Km.cell 3
  have cKm4 := Km.cell 4
  have cKm5 := Km.cell 5
  simp only [List.getElem?_toArray, List.getElem?_cons_succ, List.getElem?_cons_zero] at cKi0 cKi1 cKi2 cKi3 cKm0 cKm1 cKm2 cKm3 cKm4 cKm5
  go_wp2_with fail
  refine (HX.out _).mono ?_
  rintro e_ w_ ⟨rfl, rfl⟩
  go_wp2_with fail
  refine (HY.out _).mono ?_
  rintro e_ w_ ⟨rfl, rfl⟩
  go_wp2_with fail
  go_ret
  exact ⟨rfl, by (repeat' (first | refine bset ?_ (by first | omega | (simp <;> omega)) _ | refine balloc ?_ _ | refine Below.drew ?_ | refine below_drewN ?_ _ | exact hbw | exact Below.refl _ _))⟩

set_option maxRecDepth 100000 in
set_option maxHeartbeats 1600000 in
theorem rAt_5 (W H B a b c d e f x y t : Int) (s : ByteArray) (w : World) (h0 : t = 0)
    (HI : Hid (∀ W', Calls Try.prog 15 #[.agg #[.int .i64 W, .int .i64 H, .int .i64 B, .string s]] W' fun ed w' => ed = .returned (.bool true) ∧ Below W'.heap.size W' w'))
    (HN : Hid (∀ W', Calls Try.prog 60 #[.agg #[.int .i64 a, .int .i64 b, .int .i64 c, .int .i64 d, .int .i64 e, .int .i64 f]] W' fun ed w' => ed = .returned (.bool true) ∧ Below W'.heap.size W' w'))
    (HX : Hid (∀ W', Calls Try.prog 61 #[.int .i64 x] W' fun ed w' => ed = .returned (.bool true) ∧ W' = w'))
    (HY : Hid (∀ W', Calls Try.prog 61 #[.int .i64 y] W' fun ed w' => ed = .returned (.bool true) ∧ W' = w'))
    (HD0 : Hid (∀ W', Calls Try.prog 62 #[.agg #[.int .i64 a, .int .i64 b, .int .i64 c, .int .i64 d, .int .i64 e, .int .i64 f]] W' fun ed w' => ed = .returned (.int .i64 t) ∧ Below W'.heap.size W' w')) : Calls Try.prog 19 #[.agg #[.int .i64 W, .int .i64 H, .int .i64 B, .string s], .agg #[.int .i64 a, .int .i64 b, .int .i64 c, .int .i64 d, .int .i64 e, .int .i64 f], .int .i64 x, .int .i64 y] w fun ed w' => ed = .returned (.int .i64 (-1)) ∧ Below w.heap.size w w' := by
  go_enter Try.func19, Try.ntmps19
  go_wp2_with fail
  refine (HI.out _).mono ?_
  rintro e_ w1 ⟨rfl, hb1⟩
  have Ki := ((Blk.new w 23 #[.int .i64 W, .int .i64 H, .int .i64 B, .string s]).alloc (.cells #[.int .i64 a, .int .i64 b, .int .i64 c, .int .i64 d, .int .i64 e, .int .i64 f] 25))
  have Km := (Blk.new (w.alloc (.cells #[.int .i64 W, .int .i64 H, .int .i64 B, .string s] 23)) 25 #[.int .i64 a, .int .i64 b, .int .i64 c, .int .i64 d, .int .i64 e, .int .i64 f])
  have hz_Km : (w.alloc (.cells #[.int .i64 W, .int .i64 H, .int .i64 B, .string s] 23)).heap.size = w.heap.size + 1 := by simp
  rw [hz_Km] at Km
  clear hz_Km
  replace Ki := Ki.below hb1 Ki.lt
  replace Km := Km.below hb1 Km.lt
  have hbw : Below w.heap.size w w1 := btrans (by (repeat' (first | exact Below.refl _ _ | exact Below.refl _ _ | refine balloc ?_ _ | refine Below.drew ?_ | refine below_drewN ?_ _ | refine bset ?_ (by first | omega | (simp <;> omega)) _))) hb1
  clear hb1 
  have lKi := Ki.lt
  have cKi0 := Ki.cell 0
  have cKi1 := Ki.cell 1
  have cKi2 := Ki.cell 2
  have cKi3 := Ki.cell 3
  have lKm := Km.lt
  have cKm0 := Km.cell 0
  have cKm1 := Km.cell 1
  have cKm2 := Km.cell 2
  have cKm3 := Km.cell 3
  have cKm4 := Km.cell 4
  have cKm5 := Km.cell 5
  simp only [List.getElem?_toArray, List.getElem?_cons_succ, List.getElem?_cons_zero] at cKi0 cKi1 cKi2 cKi3 cKm0 cKm1 cKm2 cKm3 cKm4 cKm5
  go_wp2_with fail
  refine (HN.out _).mono ?_
  rintro e_ w2 ⟨rfl, hb2⟩
  replace Ki := Ki.below hb2 Ki.lt
  replace Km := Km.below hb2 Km.lt
  replace hbw : Below w.heap.size w w2 := btrans (by (repeat' (first | refine bset ?_ (by first | omega | (simp <;> omega)) _ | refine balloc ?_ _ | refine Below.drew ?_ | refine below_drewN ?_ _ | exact hbw | exact Below.refl _ _))) hb2
  clear hb2 lKi cKi0 cKi1 cKi2 cKi3 lKm cKm0 cKm1 cKm2 cKm3 cKm4 cKm5
  have lKi := Ki.lt
  have cKi0 := Ki.cell 0
  have cKi1 := Ki.cell 1
  have cKi2 := Ki.cell 2
  have cKi3 := Ki.cell 3
  have lKm := Km.lt
  have cKm0 := Km.cell 0
  have cKm1 := Km.cell 1
  have cKm2 := Km.cell 2
  have cKm3 := Km.cell 3
  have cKm4 := Km.cell 4
  have cKm5 := Km.cell 5
  simp only [List.getElem?_toArray, List.getElem?_cons_succ, List.getElem?_cons_zero] at cKi0 cKi1 cKi2 cKi3 cKm0 cKm1 cKm2 cKm3 cKm4 cKm5
  go_wp2_with fail
  refine (HX.out _).mono ?_
  rintro e_ w_ ⟨rfl, rfl⟩
  go_wp2_with fail
  refine (HY.out _).mono ?_
  rintro e_ w_ ⟨rfl, rfl⟩
  go_wp2_with fail
  refine (HD0.out _).mono ?_
  rintro e_ w3 ⟨rfl, hb3⟩
  replace Ki := Ki.below hb3 Ki.lt
  replace Km := Km.below hb3 Km.lt
  replace hbw : Below w.heap.size w w3 := btrans (by (repeat' (first | refine bset ?_ (by first | omega | (simp <;> omega)) _ | refine balloc ?_ _ | refine Below.drew ?_ | refine below_drewN ?_ _ | exact hbw | exact Below.refl _ _))) hb3
  clear hb3 lKi cKi0 cKi1 cKi2 cKi3 lKm cKm0 cKm1 cKm2 cKm3 cKm4 cKm5
  have lKi := Ki.lt
  have cKi0 := Ki.cell 0
  have cKi1 := Ki.cell 1
  have cKi2 := Ki.cell 2
  have cKi3 := Ki.cell 3
  have lKm := Km.lt
  have cKm0 := Km.cell 0
  have cKm1 := Km.cell 1
  have cKm2 := Km.cell 2
  have cKm3 := Km.cell 3
  have cKm4 := Km.cell 4
  have cKm5 := Km.cell 5
  simp only [List.getElem?_toArray, List.getElem?_cons_succ, List.getElem?_cons_zero] at cKi0 cKi1 cKi2 cKi3 cKm0 cKm1 cKm2 cKm3 cKm4 cKm5
  go_wp2_with fail
  go_ret
  exact ⟨rfl, by (repeat' (first | refine bset ?_ (by first | omega | (simp <;> omega)) _ | refine balloc ?_ _ | refine Below.drew ?_ | refine below_drewN ?_ _ | exact hbw | exact Below.refl _ _))⟩

set_option maxRecDepth 100000 in
set_option maxHeartbeats 1600000 in
theorem rAt_6 (W H B a b c d e f x y t p q p1 p2 p3 p4 u v z : Int) (s : ByteArray) (w : World) (h0 : ¬ t = 0) (x0 : -8191 ≤ x) (x1 : x ≤ 8191) (y0 : -8191 ≤ y) (y1 : y ≤ 8191) (e0 : -1073741823 ≤ e) (e1 : e ≤ 1073741823) (f0 : -1073741823 ≤ f) (f1 : f ≤ 1073741823) (hp : x * 65536 - e = p) (hq : y * 65536 - f = q) (h1 : d * p = p1) (h2 : c * q = p2) (h3 : a * q = p3) (h4 : b * p = p4) (b10 : -1729311893777219919 ≤ p1) (b11 : p1 ≤ 1729311893777219919) (b20 : -1729311893777219919 ≤ p2) (b21 : p2 ≤ 1729311893777219919) (b30 : -1729311893777219919 ≤ p3) (b31 : p3 ≤ 1729311893777219919) (b40 : -1729311893777219919 ≤ p4) (b41 : p4 ≤ 1729311893777219919)
    (HI : Hid (∀ W', Calls Try.prog 15 #[.agg #[.int .i64 W, .int .i64 H, .int .i64 B, .string s]] W' fun ed w' => ed = .returned (.bool true) ∧ Below W'.heap.size W' w'))
    (HN : Hid (∀ W', Calls Try.prog 60 #[.agg #[.int .i64 a, .int .i64 b, .int .i64 c, .int .i64 d, .int .i64 e, .int .i64 f]] W' fun ed w' => ed = .returned (.bool true) ∧ Below W'.heap.size W' w'))
    (HX : Hid (∀ W', Calls Try.prog 61 #[.int .i64 x] W' fun ed w' => ed = .returned (.bool true) ∧ W' = w'))
    (HY : Hid (∀ W', Calls Try.prog 61 #[.int .i64 y] W' fun ed w' => ed = .returned (.bool true) ∧ W' = w'))
    (HD0 : Hid (∀ W', Calls Try.prog 62 #[.agg #[.int .i64 a, .int .i64 b, .int .i64 c, .int .i64 d, .int .i64 e, .int .i64 f]] W' fun ed w' => ed = .returned (.int .i64 t) ∧ Below W'.heap.size W' w'))
    (HD1 : Hid (∀ W', Calls Try.prog 63 #[.int .i64 (p1 - p2), .int .i64 t] W' fun ed w' => ed = .returned (.int .i64 u) ∧ W' = w'))
    (HD2 : Hid (∀ W', Calls Try.prog 63 #[.int .i64 (p3 - p4), .int .i64 t] W' fun ed w' => ed = .returned (.int .i64 v) ∧ W' = w'))
    (HS : Hid (∀ W', Calls Try.prog 17 #[.agg #[.int .i64 W, .int .i64 H, .int .i64 B, .string s], .int .i64 u, .int .i64 v] W' fun ed w' => ed = .returned (.int .i64 z) ∧ Below W'.heap.size W' w')) : Calls Try.prog 19 #[.agg #[.int .i64 W, .int .i64 H, .int .i64 B, .string s], .agg #[.int .i64 a, .int .i64 b, .int .i64 c, .int .i64 d, .int .i64 e, .int .i64 f], .int .i64 x, .int .i64 y] w fun ed w' => ed = .returned (.int .i64 z) ∧ Below w.heap.size w w' := by
  go_enter Try.func19, Try.ntmps19
  go_wp2_with fail
  refine (HI.out _).mono ?_
  rintro e_ w1 ⟨rfl, hb1⟩
  have Ki := ((Blk.new w 23 #[.int .i64 W, .int .i64 H, .int .i64 B, .string s]).alloc (.cells #[.int .i64 a, .int .i64 b, .int .i64 c, .int .i64 d, .int .i64 e, .int .i64 f] 25))
  have Km := (Blk.new (w.alloc (.cells #[.int .i64 W, .int .i64 H, .int .i64 B, .string s] 23)) 25 #[.int .i64 a, .int .i64 b, .int .i64 c, .int .i64 d, .int .i64 e, .int .i64 f])
  have hz_Km : (w.alloc (.cells #[.int .i64 W, .int .i64 H, .int .i64 B, .string s] 23)).heap.size = w.heap.size + 1 := by simp
  rw [hz_Km] at Km
  clear hz_Km
  replace Ki := Ki.below hb1 Ki.lt
  replace Km := Km.below hb1 Km.lt
  have hbw : Below w.heap.size w w1 := btrans (by (repeat' (first | exact Below.refl _ _ | exact Below.refl _ _ | refine balloc ?_ _ | refine Below.drew ?_ | refine below_drewN ?_ _ | refine bset ?_ (by first | omega | (simp <;> omega)) _))) hb1
  clear hb1 
  have lKi := Ki.lt
  have cKi0 := Ki.cell 0
  have cKi1 := Ki.cell 1
  have cKi2 := Ki.cell 2
  have cKi3 := Ki.cell 3
  have lKm := Km.lt
  have cKm0 := Km.cell 0
  have cKm1 := Km.cell 1
  have cKm2 := Km.cell 2
  have cKm3 := Km.cell 3
  have cKm4 := Km.cell 4
  have cKm5 := Km.cell 5
  simp only [List.getElem?_toArray, List.getElem?_cons_succ, List.getElem?_cons_zero] at cKi0 cKi1 cKi2 cKi3 cKm0 cKm1 cKm2 cKm3 cKm4 cKm5
  go_wp2_with fail
  refine (HN.out _).mono ?_
  rintro e_ w2 ⟨rfl, hb2⟩
  replace Ki := Ki.below hb2 Ki.lt
  replace Km := Km.below hb2 Km.lt
  replace hbw : Below w.heap.size w w2 := btrans (by (repeat' (first | refine bset ?_ (by first | omega | (simp <;> omega)) _ | refine balloc ?_ _ | refine Below.drew ?_ | refine below_drewN ?_ _ | exact hbw | exact Below.refl _ _))) hb2
  clear hb2 lKi cKi0 cKi1 cKi2 cKi3 lKm cKm0 cKm1 cKm2 cKm3 cKm4 cKm5
  have lKi := Ki.lt
  have cKi0 := Ki.cell 0
  have cKi1 := Ki.cell 1
  have cKi2 := Ki.cell 2
  have cKi3 := Ki.cell 3
  have lKm := Km.lt
  have cKm0 := Km.cell 0
  have cKm1 := Km.cell 1
  have cKm2 := Km.cell 2
  have cKm3 := Km.cell 3
  have cKm4 := Km.cell 4
  have cKm5 := Km.cell 5
  simp only [List.getElem?_toArray, List.getElem?_cons_succ, List.getElem?_cons_zero] at cKi0 cKi1 cKi2 cKi3 cKm0 cKm1 cKm2 cKm3 cKm4 cKm5
  go_wp2_with fail
  refine (HX.out _).mono ?_
  rintro e_ w_ ⟨rfl, rfl⟩
  go_wp2_with fail
  refine (HY.out _).mono ?_
  rintro e_ w_ ⟨rfl, rfl⟩
  go_wp2_with fail
  refine (HD0.out _).mono ?_
  rintro e_ w3 ⟨rfl, hb3⟩
  replace Ki := Ki.below hb3 Ki.lt
  replace Km := Km.below hb3 Km.lt
  replace hbw : Below w.heap.size w w3 := btrans (by (repeat' (first | refine bset ?_ (by first | omega | (simp <;> omega)) _ | refine balloc ?_ _ | refine Below.drew ?_ | refine below_drewN ?_ _ | exact hbw | exact Below.refl _ _))) hb3
  clear hb3 lKi cKi0 cKi1 cKi2 cKi3 lKm cKm0 cKm1 cKm2 cKm3 cKm4 cKm5
  have lKi := Ki.lt
  have cKi0 := Ki.cell 0
  have cKi1 := Ki.cell 1
  have cKi2 := Ki.cell 2
  have cKi3 := Ki.cell 3
  have lKm := Km.lt
  have cKm0 := Km.cell 0
  have cKm1 := Km.cell 1
  have cKm2 := Km.cell 2
  have cKm3 := Km.cell 3
  have cKm4 := Km.cell 4
  have cKm5 := Km.cell 5
  simp only [List.getElem?_toArray, List.getElem?_cons_succ, List.getElem?_cons_zero] at cKi0 cKi1 cKi2 cKi3 cKm0 cKm1 cKm2 cKm3 cKm4 cKm5
  have z0 : (t == 0) = false := by simp; exact h0
  go_wp2_with fail
  have uKi0 : ∀ u : Up w3, u.val.cell? ⟨w.heap.size, 0, none⟩ = some (.int .i64 W) := fun u => (u.cell lKi).trans cKi0
  have uKi1 : ∀ u : Up w3, u.val.cell? ⟨w.heap.size, 1, none⟩ = some (.int .i64 H) := fun u => (u.cell lKi).trans cKi1
  have uKi2 : ∀ u : Up w3, u.val.cell? ⟨w.heap.size, 2, none⟩ = some (.int .i64 B) := fun u => (u.cell lKi).trans cKi2
  have uKi3 : ∀ u : Up w3, u.val.cell? ⟨w.heap.size, 3, none⟩ = some (.string s) := fun u => (u.cell lKi).trans cKi3
  have uKm0 : ∀ u : Up w3, u.val.cell? ⟨(w.heap.size + 1), 0, none⟩ = some (.int .i64 a) := fun u => (u.cell lKm).trans cKm0
  have uKm1 : ∀ u : Up w3, u.val.cell? ⟨(w.heap.size + 1), 1, none⟩ = some (.int .i64 b) := fun u => (u.cell lKm).trans cKm1
  have uKm2 : ∀ u : Up w3, u.val.cell? ⟨(w.heap.size + 1), 2, none⟩ = some (.int .i64 c) := fun u => (u.cell lKm).trans cKm2
  have uKm3 : ∀ u : Up w3, u.val.cell? ⟨(w.heap.size + 1), 3, none⟩ = some (.int .i64 d) := fun u => (u.cell lKm).trans cKm3
  have uKm4 : ∀ u : Up w3, u.val.cell? ⟨(w.heap.size + 1), 4, none⟩ = some (.int .i64 e) := fun u => (u.cell lKm).trans cKm4
  have uKm5 : ∀ u : Up w3, u.val.cell? ⟨(w.heap.size + 1), 5, none⟩ = some (.int .i64 f) := fun u => (u.cell lKm).trans cKm5
  refine wp_region_up (by kernel_rfl) (by kernel_rfl) ?_
  repeat (go_big_quiet_step (fail))
  refine wpQuiet_nil ?_
  rintro _ ⟨uq, rfl⟩
  replace Ki := Ki.below uq.ok lKi
  replace Km := Km.below uq.ok lKm
  replace hbw := btrans hbw uq.ok
  generalize hwx : uq.val = w4 at *
  clear hwx uq lKi cKi0 cKi1 cKi2 cKi3 lKm cKm0 cKm1 cKm2 cKm3 cKm4 cKm5 uKi0 uKi1 uKi2 uKi3 uKm0 uKm1 uKm2 uKm3 uKm4 uKm5
  have lKi := Ki.lt
  have cKi0 := Ki.cell 0
  have cKi1 := Ki.cell 1
  have cKi2 := Ki.cell 2
  have cKi3 := Ki.cell 3
  have lKm := Km.lt
  have cKm0 := Km.cell 0
  have cKm1 := Km.cell 1
  have cKm2 := Km.cell 2
  have cKm3 := Km.cell 3
  have cKm4 := Km.cell 4
  have cKm5 := Km.cell 5
  simp only [List.getElem?_toArray, List.getElem?_cons_succ, List.getElem?_cons_zero] at cKi0 cKi1 cKi2 cKi3 cKm0 cKm1 cKm2 cKm3 cKm4 cKm5
  go_wp2_with fail
  have uKi0 : ∀ u : Up w4, u.val.cell? ⟨w.heap.size, 0, none⟩ = some (.int .i64 W) := fun u => (u.cell lKi).trans cKi0
  have uKi1 : ∀ u : Up w4, u.val.cell? ⟨w.heap.size, 1, none⟩ = some (.int .i64 H) := fun u => (u.cell lKi).trans cKi1
  have uKi2 : ∀ u : Up w4, u.val.cell? ⟨w.heap.size, 2, none⟩ = some (.int .i64 B) := fun u => (u.cell lKi).trans cKi2
  have uKi3 : ∀ u : Up w4, u.val.cell? ⟨w.heap.size, 3, none⟩ = some (.string s) := fun u => (u.cell lKi).trans cKi3
  have uKm0 : ∀ u : Up w4, u.val.cell? ⟨(w.heap.size + 1), 0, none⟩ = some (.int .i64 a) := fun u => (u.cell lKm).trans cKm0
  have uKm1 : ∀ u : Up w4, u.val.cell? ⟨(w.heap.size + 1), 1, none⟩ = some (.int .i64 b) := fun u => (u.cell lKm).trans cKm1
  have uKm2 : ∀ u : Up w4, u.val.cell? ⟨(w.heap.size + 1), 2, none⟩ = some (.int .i64 c) := fun u => (u.cell lKm).trans cKm2
  have uKm3 : ∀ u : Up w4, u.val.cell? ⟨(w.heap.size + 1), 3, none⟩ = some (.int .i64 d) := fun u => (u.cell lKm).trans cKm3
  have uKm4 : ∀ u : Up w4, u.val.cell? ⟨(w.heap.size + 1), 4, none⟩ = some (.int .i64 e) := fun u => (u.cell lKm).trans cKm4
  have uKm5 : ∀ u : Up w4, u.val.cell? ⟨(w.heap.size + 1), 5, none⟩ = some (.int .i64 f) := fun u => (u.cell lKm).trans cKm5
  have HU1 := Lib.hid (fun u : Up w4 => up_same (u := u) (HD1.out u.val))
  have HU2 := Lib.hid (fun u : Up w4 => up_same (u := u) (HD2.out u.val))
  have HU3 := Lib.hid (fun u : Up w4 => up_of (u := u) (HS.out u.val))
  refine wp_region_up (by kernel_rfl) (by kernel_rfl) ?_
  repeat (go_big_quiet_step (fail))
  go_big_quiet_step (exact HU1.out _)
  repeat (go_big_quiet_step (fail))
  go_big_quiet_step (exact HU2.out _)
  repeat (go_big_quiet_step (fail))
  go_big_quiet_step (exact HU3.out _)
  repeat (go_big_quiet_step (fail))
  refine wpQuiet_nil ?_
  rintro _ ⟨uq, rfl⟩
  replace hbw := btrans hbw uq.ok
  generalize hwx : uq.val = w5 at *
  clear hwx uq Ki Km lKi cKi0 cKi1 cKi2 cKi3 lKm cKm0 cKm1 cKm2 cKm3 cKm4 cKm5 uKi0 uKi1 uKi2 uKi3 uKm0 uKm1 uKm2 uKm3 uKm4 uKm5 HU1 HU2 HU3
  go_wp2_with fail
  go_ret
  exact ⟨rfl, hbw⟩

theorem rAt_any (W H B a b c d e f x y : Int) (s : ByteArray) (w : World) (hs : (s.size : Int) ≤ 9223372036854775807) : Calls Try.prog 19 #[.agg #[.int .i64 W, .int .i64 H, .int .i64 B, .string s], .agg #[.int .i64 a, .int .i64 b, .int .i64 c, .int .i64 d, .int .i64 e, .int .i64 f], .int .i64 x, .int .i64 y] w fun ed w' => ed = .returned (.int .i64 (AtV W H B s a b c d e f x y)) ∧ Below w.heap.size w w' := by
  unfold AtV
  cases hi : mayI W H B s.size with
  | false =>
    rw [if_neg (by simp)]
    exact rAt_1 W H B a b c d e f x y s w (Lib.hid fun W' => by have := rmay37_any W H B s W' hs; rwa [hi] at this)
  | true =>
    cases hm : mayB a b c d e f with
    | false =>
      rw [if_neg (by simp)]
      exact rAt_2 W H B a b c d e f x y s w (Lib.hid fun W' => by have := rmay37_any W H B s W' hs; rwa [hi] at this) (Lib.hid fun W' => by have := rmay_any a b c d e f W'; rwa [hm] at this)
    | true =>
      rw [if_pos (by simp)]
      unfold atV
      cases hx : (decide (-8191 ≤ x) && decide (x ≤ 8191)) with
      | false =>
        rw [if_pos (.inr (by unfold coordB; rw [hx]; rfl))]
        exact rAt_3 W H B a b c d e f x y s w (Lib.hid fun W' => by have := rmay37_any W H B s W' hs; rwa [hi] at this) (Lib.hid fun W' => by have := rmay_any a b c d e f W'; rwa [hm] at this) (Lib.hid fun W' => by have := rcoord_any x W'; rwa [hx] at this)
      | true =>
        cases hy : (decide (-8191 ≤ y) && decide (y ≤ 8191)) with
        | false =>
          rw [if_pos (.inr (by unfold coordB; rw [hx, Bool.true_and, hy]))]
          exact rAt_4 W H B a b c d e f x y s w (Lib.hid fun W' => by have := rmay37_any W H B s W' hs; rwa [hi] at this) (Lib.hid fun W' => by have := rmay_any a b c d e f W'; rwa [hm] at this) (Lib.hid fun W' => by have := rcoord_any x W'; rwa [hx] at this) (Lib.hid fun W' => by have := rcoord_any y W'; rwa [hy] at this)
        | true =>
          have hd := det_bd hm
          have hxx : -8191 ≤ x ∧ x ≤ 8191 := by simpa using hx
          have hyy : -8191 ≤ y ∧ y ≤ 8191 := by simpa using hy
          by_cases h0 : a * d - b * c = 0
          · rw [if_pos (.inl h0)]
            exact rAt_5 W H B a b c d e f x y _ s w h0 (Lib.hid fun W' => by have := rmay37_any W H B s W' hs; rwa [hi] at this) (Lib.hid fun W' => by have := rmay_any a b c d e f W'; rwa [hm] at this) (Lib.hid fun W' => by have := rcoord_any x W'; rwa [hx] at this) (Lib.hid fun W' => by have := rcoord_any y W'; rwa [hy] at this) (Lib.hid fun W' => rdet_any a b c d e f W' hm)
          · rw [if_neg (by rintro (h | h); exact h0 h; unfold coordB at h; rw [hx, Bool.true_and, hy] at h; cases h)]
            obtain ⟨w1, w2, w3, w4⟩ := way_bd hm hxx hyy
            obtain ⟨_, _, _, _, he, hf⟩ := mayB_bd hm
            exact rAt_6 W H B a b c d e f x y _ _ _ _ _ _ _ _ _ _ s w h0 hxx.1 hxx.2 hyy.1 hyy.2 he.1 he.2 hf.1 hf.2 rfl rfl rfl rfl rfl rfl w1.1 w1.2 w2.1 w2.2 w3.1 w3.2 w4.1 w4.2 (Lib.hid fun W' => by have := rmay37_any W H B s W' hs; rwa [hi] at this) (Lib.hid fun W' => by have := rmay_any a b c d e f W'; rwa [hm] at this) (Lib.hid fun W' => by have := rcoord_any x W'; rwa [hx] at this) (Lib.hid fun W' => by have := rcoord_any y W'; rwa [hy] at this) (Lib.hid fun W' => rdet_any a b c d e f W' hm)
              (Lib.hid fun W' => rdiv_any _ _ W' ⟨by omega, by omega⟩ ⟨by omega, by omega⟩ h0) (Lib.hid fun W' => rdiv_any _ _ W' ⟨by omega, by omega⟩ ⟨by omega, by omega⟩ h0)
              (Lib.hid fun W' => rsample_may W H B _ _ s W' hi hs)

end Go.Proofs.Ytegpjjkbbdfggaa.im

/-
  Layer 37: the closure of walk: the next sample of a line.
-/
namespace Go.Proofs.Ytegpjjkbbdfggaa.im
set_option linter.unusedVariables false
set_option linter.unusedSimpArgs false
open Go.RowKit bs mt

theorem blk_new2 (w : World) (o : Obj) (t : TypeId) (cs : Array Value) : Blk ((w.alloc o).alloc (.cells cs t)) (w.heap.size + 1) t cs := by
  have := Blk.new (w.alloc o) t cs
  simpa using this

set_option maxRecDepth 100000 in
set_option maxHeartbeats 1600000 in
theorem step_any (W H B a b c d e f t X Z dd bb X2 Z2 u v z : Int) (vB xB zB : Nat) (s : ByteArray) (w : World) (Kv : Blk w vB 92 #[.int .i64 W, .int .i64 H, .int .i64 B, .string s, .int .i64 a, .int .i64 b, .int .i64 c, .int .i64 d, .int .i64 e, .int .i64 f, .int .i64 t]) (Kx : Blk w xB 3 #[.int .i64 X]) (Kz : Blk w zB 3 #[.int .i64 Z]) (n1 : vB ≠ xB) (n2 : vB ≠ zB) (n3 : xB ≠ zB)
    (hd : d * 1048576 = dd) (hb : b * 1048576 = bb) (hX : X + dd = X2) (hZ : Z - bb = Z2) (d0 : -4611686018427387904 ≤ dd) (d1 : dd ≤ 4611686018427387904) (b0 : -4611686018427387904 ≤ bb) (b1 : bb ≤ 4611686018427387904) (x0 : -4611686018427387904 ≤ X2) (x1 : X2 ≤ 4611686018427387904) (z0 : -4611686018427387904 ≤ Z2) (z1 : Z2 ≤ 4611686018427387904)
    (HD1 : Hid (∀ W', Calls Try.prog 102 #[.int .i64 X, .int .i64 t] W' fun ed w' => ed = .returned (.int .i64 u) ∧ W' = w'))
    (HD2 : Hid (∀ W', Calls Try.prog 102 #[.int .i64 Z, .int .i64 t] W' fun ed w' => ed = .returned (.int .i64 v) ∧ W' = w'))
    (HS : Hid (∀ W', Calls Try.prog 57 #[.agg #[.int .i64 W, .int .i64 H, .int .i64 B, .string s], .int .i64 u, .int .i64 v] W' fun ed w' => ed = .returned (.int .i64 z) ∧ Below W'.heap.size W' w')) :
    Calls Try.prog 104 #[.pointer (some ⟨vB, 0, none⟩), .pointer (some ⟨xB, 0, none⟩), .pointer (some ⟨zB, 0, none⟩)] w fun ed w' => ed = .returned (.int .i64 z) ∧ ∃ wm, Below w.heap.size w wm ∧ w' = (wm.setCell ⟨xB, 0, none⟩ (.int .i64 X2)).setCell ⟨zB, 0, none⟩ (.int .i64 Z2) := by
  go_enter Try.func104, Try.ntmps104
  have hbw : Below w.heap.size w w := Below.refl _ _
  have lKv := Kv.lt
  have cKv0 := Kv.cell 0
  have cKv1 := Kv.cell 1
  have cKv2 := Kv.cell 2
  have cKv3 := Kv.cell 3
  have cKv4 := Kv.cell 4
  have cKv5 := Kv.cell 5
  have cKv6 := Kv.cell 6
  have cKv7 := Kv.cell 7
  have cKv8 := Kv.cell 8
  have cKv9 := Kv.cell 9
  have cKv10 := Kv.cell 10
  have lKx := Kx.lt
  have cKx0 := Kx.cell 0
  have fKx0 := Kx.frozen 0
  have lKz := Kz.lt
  have cKz0 := Kz.cell 0
  have fKz0 := Kz.frozen 0
  simp only [List.getElem?_toArray, List.getElem?_cons_succ, List.getElem?_cons_zero] at cKv0 cKv1 cKv2 cKv3 cKv4 cKv5 cKv6 cKv7 cKv8 cKv9 cKv10 cKx0 cKz0
  go_wp2_with fail
  have uKv0 : ∀ u : Up w, u.val.cell? ⟨vB, 0, none⟩ = some (.int .i64 W) := fun u => (u.cell lKv).trans cKv0
  have uKv1 : ∀ u : Up w, u.val.cell? ⟨vB, 1, none⟩ = some (.int .i64 H) := fun u => (u.cell lKv).trans cKv1
  have uKv2 : ∀ u : Up w, u.val.cell? ⟨vB, 2, none⟩ = some (.int .i64 B) := fun u => (u.cell lKv).trans cKv2
  have uKv3 : ∀ u : Up w, u.val.cell? ⟨vB, 3, none⟩ = some (.string s) := fun u => (u.cell lKv).trans cKv3
  have uKv4 : ∀ u : Up w, u.val.cell? ⟨vB, 4, none⟩ = some (.int .i64 a) := fun u => (u.cell lKv).trans cKv4
  have uKv5 : ∀ u : Up w, u.val.cell? ⟨vB, 5, none⟩ = some (.int .i64 b) := fun u => (u.cell lKv).trans cKv5
  have uKv6 : ∀ u : Up w, u.val.cell? ⟨vB, 6, none⟩ = some (.int .i64 c) := fun u => (u.cell lKv).trans cKv6
  have uKv7 : ∀ u : Up w, u.val.cell? ⟨vB, 7, none⟩ = some (.int .i64 d) := fun u => (u.cell lKv).trans cKv7
  have uKv8 : ∀ u : Up w, u.val.cell? ⟨vB, 8, none⟩ = some (.int .i64 e) := fun u => (u.cell lKv).trans cKv8
  have uKv9 : ∀ u : Up w, u.val.cell? ⟨vB, 9, none⟩ = some (.int .i64 f) := fun u => (u.cell lKv).trans cKv9
  have uKv10 : ∀ u : Up w, u.val.cell? ⟨vB, 10, none⟩ = some (.int .i64 t) := fun u => (u.cell lKv).trans cKv10
  have uKx0 : ∀ u : Up w, u.val.cell? ⟨xB, 0, none⟩ = some (.int .i64 X) := fun u => (u.cell lKx).trans cKx0
  have uKz0 : ∀ u : Up w, u.val.cell? ⟨zB, 0, none⟩ = some (.int .i64 Z) := fun u => (u.cell lKz).trans cKz0
  have HU1 := Lib.hid (fun u : Up w => up_same (u := u) (HD1.out u.val))
  have HU2 := Lib.hid (fun u : Up w => up_same (u := u) (HD2.out u.val))
  have HU3 := Lib.hid (fun u : Up w => up_of (u := u) (HS.out u.val))
  refine wp_region_up (by kernel_rfl) (by kernel_rfl) ?_
  repeat (go_big_quiet_step (fail))
  go_big_quiet_step (exact HU1.out _)
  repeat (go_big_quiet_step (fail))
  go_big_quiet_step (exact HU2.out _)
  repeat (go_big_quiet_step (fail))
  go_big_quiet_step (exact HU3.out _)
  repeat (go_big_quiet_step (fail))
  refine wpQuiet_nil ?_
  rintro _ ⟨uq, rfl⟩
  replace Kv := Kv.below uq.ok lKv
  replace Kx := Kx.below uq.ok lKx
  replace Kz := Kz.below uq.ok lKz
  replace hbw := btrans hbw uq.ok
  generalize hwx : uq.val = w1 at *
  clear hwx uq lKv cKv0 cKv1 cKv2 cKv3 cKv4 cKv5 cKv6 cKv7 cKv8 cKv9 cKv10 lKx cKx0 fKx0 lKz cKz0 fKz0 uKv0 uKv1 uKv2 uKv3 uKv4 uKv5 uKv6 uKv7 uKv8 uKv9 uKv10 uKx0 uKz0 HU1 HU2 HU3
  have lKv := Kv.lt
  have cKv0 := Kv.cell 0
  have cKv1 := Kv.cell 1
  have cKv2 := Kv.cell 2
  have cKv3 := Kv.cell 3
  have cKv4 := Kv.cell 4
  have cKv5 := Kv.cell 5
  have cKv6 := Kv.cell 6
  have cKv7 := Kv.cell 7
  have cKv8 := Kv.cell 8
  have cKv9 := Kv.cell 9
  have cKv10 := Kv.cell 10
  have lKx := Kx.lt
  have cKx0 := Kx.cell 0
  have fKx0 := Kx.frozen 0
  have lKz := Kz.lt
  have cKz0 := Kz.cell 0
  have fKz0 := Kz.frozen 0
  simp only [List.getElem?_toArray, List.getElem?_cons_succ, List.getElem?_cons_zero] at cKv0 cKv1 cKv2 cKv3 cKv4 cKv5 cKv6 cKv7 cKv8 cKv9 cKv10 cKx0 cKz0
  clear HD1 HD2 HS Kv Kx Kz
  go_wp2_with fail
  go_region
  go_wp2_with fail
  go_ret
  exact ⟨rfl, _, Below.drew hbw, rfl⟩

set_option maxRecDepth 100000 in
set_option maxHeartbeats 1600000 in
theorem walk_any (W H B a b c d e f t y p q p1 p2 p3 p4 : Int) (s : ByteArray) (w : World) (y0 : -8191 ≤ y) (y1 : y ≤ 8191) (e0 : -1073741823 ≤ e) (e1 : e ≤ 1073741823) (f0 : -1073741823 ≤ f) (f1 : f ≤ 1073741823)
    (hp : 524288 - e = p) (hq : y * 65536 - f = q) (h1 : d * p = p1) (h2 : c * q = p2) (h3 : a * q = p3) (h4 : b * p = p4) (b10 : -1729311893777219919 ≤ p1) (b11 : p1 ≤ 1729311893777219919) (b20 : -1729311893777219919 ≤ p2) (b21 : p2 ≤ 1729311893777219919) (b30 : -1729311893777219919 ≤ p3) (b31 : p3 ≤ 1729311893777219919) (b40 : -1729311893777219919 ≤ p4) (b41 : p4 ≤ 1729311893777219919) :
    Calls Try.prog 65 #[.agg #[.int .i64 W, .int .i64 H, .int .i64 B, .string s, .int .i64 a, .int .i64 b, .int .i64 c, .int .i64 d, .int .i64 e, .int .i64 f, .int .i64 t], .int .i64 y] w fun ed w' => ∃ vB xB zB : Nat, ed = .returned (.func (.func 104) #[] #[.pointer (some ⟨vB, 0, none⟩), .pointer (some ⟨xB, 0, none⟩), .pointer (some ⟨zB, 0, none⟩)]) ∧
      Blk w' vB 92 #[.int .i64 W, .int .i64 H, .int .i64 B, .string s, .int .i64 a, .int .i64 b, .int .i64 c, .int .i64 d, .int .i64 e, .int .i64 f, .int .i64 t] ∧ Blk w' xB 3 #[.int .i64 (p1 - p2)] ∧ Blk w' zB 3 #[.int .i64 (p3 - p4)] ∧ (vB ≠ xB ∧ vB ≠ zB ∧ xB ≠ zB) ∧ (w.heap.size ≤ vB ∧ w.heap.size ≤ xB ∧ w.heap.size ≤ zB) ∧ Below w.heap.size w w' := by
  have hmf : ∀ (fn : Fn) (first cap : Array Value) (w : World), (Instr.makeFunc fn first cap).run Try.prog w = .ok (.func fn first cap) w := fun _ _ _ _ => rfl
  go_enter Try.func65, Try.ntmps65
  go_wp2_with fail
  have Kv := (Blk.new w 92 #[.int .i64 W, .int .i64 H, .int .i64 B, .string s, .int .i64 a, .int .i64 b, .int .i64 c, .int .i64 d, .int .i64 e, .int .i64 f, .int .i64 t])
  have hbw : Below w.heap.size w (w.alloc (.cells #[.int .i64 W, .int .i64 H, .int .i64 B, .string s, .int .i64 a, .int .i64 b, .int .i64 c, .int .i64 d, .int .i64 e, .int .i64 f, .int .i64 t] 92)) := by (repeat' (first | exact Below.refl _ _ | exact Below.refl _ _ | refine balloc ?_ _ | refine Below.drew ?_ | refine below_drewN ?_ _ | refine bset ?_ (by first | omega | (simp <;> omega)) _))
  generalize hwx : (w.alloc (.cells #[.int .i64 W, .int .i64 H, .int .i64 B, .string s, .int .i64 a, .int .i64 b, .int .i64 c, .int .i64 d, .int .i64 e, .int .i64 f, .int .i64 t] 92)) = wa at *
  clear hwx
  have lKv := Kv.lt
  have cKv0 := Kv.cell 0
  have cKv1 := Kv.cell 1
  have cKv2 := Kv.cell 2
  have cKv3 := Kv.cell 3
  have cKv4 := Kv.cell 4
  have cKv5 := Kv.cell 5
  have cKv6 := Kv.cell 6
  have cKv7 := Kv.cell 7
  have cKv8 := Kv.cell 8
  have cKv9 := Kv.cell 9
  have cKv10 := Kv.cell 10
  simp only [List.getElem?_toArray, List.getElem?_cons_succ, List.getElem?_cons_zero] at cKv0 cKv1 cKv2 cKv3 cKv4 cKv5 cKv6 cKv7 cKv8 cKv9 cKv10
  have uKv0 : ∀ u : Up wa, u.val.cell? ⟨w.heap.size, 0, none⟩ = some (.int .i64 W) := fun u => (u.cell lKv).trans cKv0
  have uKv1 : ∀ u : Up wa, u.val.cell? ⟨w.heap.size, 1, none⟩ = some (.int .i64 H) := fun u => (u.cell lKv).trans cKv1
  have uKv2 : ∀ u : Up wa, u.val.cell? ⟨w.heap.size, 2, none⟩ = some (.int .i64 B) := fun u => (u.cell lKv).trans cKv2
  have uKv3 : ∀ u : Up wa, u.val.cell? ⟨w.heap.size, 3, none⟩ = some (.string s) := fun u => (u.cell lKv).trans cKv3
  have uKv4 : ∀ u : Up wa, u.val.cell? ⟨w.heap.size, 4, none⟩ = some (.int .i64 a) := fun u => (u.cell lKv).trans cKv4
  have uKv5 : ∀ u : Up wa, u.val.cell? ⟨w.heap.size, 5, none⟩ = some (.int .i64 b) := fun u => (u.cell lKv).trans cKv5
  have uKv6 : ∀ u : Up wa, u.val.cell? ⟨w.heap.size, 6, none⟩ = some (.int .i64 c) := fun u => (u.cell lKv).trans cKv6
  have uKv7 : ∀ u : Up wa, u.val.cell? ⟨w.heap.size, 7, none⟩ = some (.int .i64 d) := fun u => (u.cell lKv).trans cKv7
  have uKv8 : ∀ u : Up wa, u.val.cell? ⟨w.heap.size, 8, none⟩ = some (.int .i64 e) := fun u => (u.cell lKv).trans cKv8
  have uKv9 : ∀ u : Up wa, u.val.cell? ⟨w.heap.size, 9, none⟩ = some (.int .i64 f) := fun u => (u.cell lKv).trans cKv9
  have uKv10 : ∀ u : Up wa, u.val.cell? ⟨w.heap.size, 10, none⟩ = some (.int .i64 t) := fun u => (u.cell lKv).trans cKv10
  refine wp_region_up (by kernel_rfl) (by kernel_rfl) ?_
  repeat (go_big_quiet_step (fail))
  refine wpQuiet_nil ?_
  rintro _ ⟨uq, rfl⟩
  replace Kv := Kv.below uq.ok lKv
  replace hbw := btrans hbw uq.ok
  generalize hwx : uq.val = w1 at *
  clear hwx uq lKv cKv0 cKv1 cKv2 cKv3 cKv4 cKv5 cKv6 cKv7 cKv8 cKv9 cKv10 uKv0 uKv1 uKv2 uKv3 uKv4 uKv5 uKv6 uKv7 uKv8 uKv9 uKv10
  have lKv := Kv.lt
  have cKv0 := Kv.cell 0
  have cKv1 := Kv.cell 1
  have cKv2 := Kv.cell 2
  have cKv3 := Kv.cell 3
  have cKv4 := Kv.cell 4
  have cKv5 := Kv.cell 5
  have cKv6 := Kv.cell 6
  have cKv7 := Kv.cell 7
  have cKv8 := Kv.cell 8
  have cKv9 := Kv.cell 9
  have cKv10 := Kv.cell 10
  simp only [List.getElem?_toArray, List.getElem?_cons_succ, List.getElem?_cons_zero] at cKv0 cKv1 cKv2 cKv3 cKv4 cKv5 cKv6 cKv7 cKv8 cKv9 cKv10
  have HKv := Lib.hid Kv
  have HBW := Lib.hid hbw
  have hsz := hbw.size
  have lv := Kv.lt
  clear Kv hbw
  go_wp2_with fail
  go_region
  · go_wp2_with fail
    go_ret
    exact ⟨_, _, _, rfl, ((HKv.out.alloc _).alloc _).drew, ((Blk.new _ _ _).alloc _).drew, (blk_new2 _ _ _ _).drew, ⟨by omega, by omega, by omega⟩, ⟨by omega, by omega, by omega⟩, by (repeat' (first | exact HBW.out | exact Below.refl _ _ | refine balloc ?_ _ | refine Below.drew ?_ | refine below_drewN ?_ _ | refine bset ?_ (by first | omega | (simp <;> omega)) _))⟩
  · go_wp2_with fail
    go_ret
    exact ⟨_, _, _, rfl, ((HKv.out.alloc _).alloc _).drew, (blk_new2 _ _ _ _).drew, ((Blk.new _ _ _).alloc _).drew, ⟨by omega, by omega, by omega⟩, ⟨by omega, by omega, by omega⟩, by (repeat' (first | exact HBW.out | exact Below.refl _ _ | refine balloc ?_ _ | refine Below.drew ?_ | refine below_drewN ?_ _ | refine bset ?_ (by first | omega | (simp <;> omega)) _))⟩

end Go.Proofs.Ytegpjjkbbdfggaa.im

/-
  Slices of numbers that a call makes itself, as lists; and Same of two lists alike.
-/
namespace Go.Proofs.Ytegpjjkbbdfggaa.im
set_option linter.unusedVariables false
set_option linter.unusedSimpArgs false
open Go.RowKit bs mt

def numL (l : List Int) : List Value := l.map fun x => .int .i64 x
/-- the slice value owns the numbers l, in blocks from 'base' on -/
def OwnInts (w : World) (base : Nat) (v : Value) (l : List Int) : Prop := w.ownsRow base 3 1 v l.length (numL l)
/-- the slice value reads as the numbers l -/
def IntsV (w : World) (v : Value) (l : List Int) : Prop :=
  ∃ A c, v = .slice A l.length c ∧ (0 < l.length → ∃ b, A = some ⟨b, 0, none⟩ ∧ b < w.heap.size ∧ ∀ (j : Nat) (h : j < l.length), w.cell? ⟨b, j, none⟩ = some (.int .i64 l[j]))
theorem IntsV.below {w w' : World} {v : Value} {l : List Int} (h : IntsV w v l) (hb : Below w.heap.size w w') : IntsV w' v l := by
  obtain ⟨A, c, e, h⟩ := h
  refine ⟨A, c, e, fun hn => ?_⟩
  obtain ⟨b, e2, hlt, hc⟩ := h hn
  exact ⟨b, e2, Nat.lt_of_lt_of_le hlt hb.size, fun j hj => (hb.cell (p := ⟨b, j, none⟩) hlt).trans (hc j hj)⟩
theorem IntsV.nil_ (w : World) : IntsV w (.slice none 0 0) [] := ⟨none, 0, rfl, fun h => absurd h (by simp)⟩
theorem OwnInts.ints {w : World} {base : Nat} {v : Value} {l : List Int} (h : OwnInts w base v l) : IntsV w v l := by
  have hh := h
  rcases h.2 with ⟨rfl, h0⟩ | ⟨g, cap, cur, rfl, hb, hg, hn, hm, hs, ht⟩
  · have : l = [] := List.eq_nil_of_length_eq_zero h0
    subst this
    exact IntsV.nil_ w
  · refine ⟨_, _, rfl, fun _ => ⟨g, rfl, (Array.getElem?_eq_some_iff.1 hg).1, fun j hj => ?_⟩⟩
    rw [World.ownsRow.cellAt (g := g) (cap := cap) hh j (by omega)]
    simp [numL, hj]
theorem own_below {w w' : World} {base : Nat} {v : Value} {l : List Int} (h : OwnInts w base v l) (hb : Below w.heap.size w w') : OwnInts w' base v l := by
  refine ⟨h.1, ?_⟩
  rcases h.2 with h0 | ⟨g, cap, cur, e, h1, hg, h2⟩
  · exact .inl h0
  · exact .inr ⟨g, cap, cur, e, h1, (hb.block g (Array.getElem?_eq_some_iff.1 hg).1).trans hg, h2⟩
theorem own_far {w : World} {base : Nat} {v : Value} {l : List Int} (h : OwnInts w base v l) {p : Addr} (hp : p.block < base) (u : Value) : OwnInts (w.setCell p u) base v l := by
  refine ⟨h.1, ?_⟩
  rcases h.2 with h0 | ⟨g, cap, cur, e, h1, hg, h2⟩
  · exact .inl h0
  · exact .inr ⟨g, cap, cur, e, h1, (Below.heap_setCell w p u g (by omega)).trans hg, h2⟩
theorem one_new (w : World) (x : Value) (t : TypeId) : ∀ (j : Nat) (u : Value), [x][j]? = some u → (w.alloc (.cells #[x] t)).cell? ((⟨w.heap.size, 0, none⟩ : Addr).add j) = some u := by
  intro j u hu
  have hadd : (⟨w.heap.size, 0, none⟩ : Addr).add j = ⟨w.heap.size, j, none⟩ := by unfold Addr.add; split <;> simp_all
  rw [hadd, (Blk.new w t #[x]).cell]
  simpa using hu
theorem own_put {W wr w1 : World} {base : Nat} {v v1 : Value} {l : List Int} {x : Int} {o : Obj} (h : OwnInts wr base v l) (hb : Below W.heap.size W wr) (hB : W.heap.size ≤ base) (hbs : base ≤ wr.heap.size)
    (hown : w1.ownsRow base 3 1 v1 (l.length + 1) (numL l ++ [.int .i64 x])) (hg : (wr.alloc o).grownBy w1 v.ownBlock) :
    OwnInts w1 base v1 (l ++ [x]) ∧ Below W.heap.size W w1 ∧ base ≤ w1.heap.size ∧ ∀ g t cs, Blk wr g t cs → g < base → Blk w1 g t cs := by
  have hne : ∀ k, v.ownBlock = some k → base ≤ k := fun k hk => (h.lt k hk).1
  have hs : wr.heap.size ≤ w1.heap.size := by have := hg.size; simp at this; omega
  refine ⟨?_, ?_, by omega, fun g t cs hk hlt => ?_⟩
  · unfold OwnInts numL
    have := hown
    unfold numL at this
    simpa using this
  · exact (hb.alloc hb.size o).grown hg (by have := hb.size; simp; omega) (fun k hk => by have := hne k hk; omega)
  · refine (hk.alloc o).grown hg ?_
    intro he
    have := hne g he.symm
    omega
end Go.Proofs.Ytegpjjkbbdfggaa.im

/-
  Layer 37: rest; the reference's Line; Same of two lists alike.
-/
namespace Go.Proofs.Ytegpjjkbbdfggaa.im
set_option linter.unusedVariables false
set_option linter.unusedSimpArgs false
open Go.RowKit bs mt

theorem rep_put (k : Nat) : List.replicate k (-1 : Int) ++ [-1] = List.replicate (k + 1) (-1) := by rw [List.replicate_succ']

set_option maxRecDepth 100000 in
set_option maxHeartbeats 1600000 in
theorem rest_any (n : Nat) (w : World) (hn : n ≤ 64) : Calls Try.prog 64 #[.int .i64 (n : Int)] w fun ed w' => ∃ v, ed = .returned v ∧ IntsV w' v (List.replicate n (-1)) ∧ Below w.heap.size w w' := by
  obtain ⟨i0, hi, hz0, hz1, hz2⟩ := info_parts (show (Try.prog.info? 3).map (fun i => (i.zero, i.size, i.bytes)) = some (some (.int .i64 0), 1, 8) by kernel_rfl)
  go_enter Try.func64, Try.ntmps64
  go_wp2_with fail
  go_loopw [3, 5] (fun v iv wr => ∃ k : Nat, k ≤ n ∧ iv = .int .i64 (k : Int) ∧ OwnInts wr w.heap.size v (List.replicate k (-1)) ∧ Below w.heap.size w wr) (fun _ iv _ => n - (intOf iv).toNat)
  case atStart => exact ⟨0, by omega, rfl, World.ownsRow_nil _ _ _ _, Below.refl _ _⟩
  case round =>
    obtain ⟨k, hk, rfl, hown, hbw⟩ := hrel
    have hsz := hbw.size
    by_cases hlt : k < n
    · have d1 : decide ((k : Int) < (n : Int)) = true := by simp; omega
      have hO : ∀ o, (wr.alloc o).ownsRow w.heap.size 3 1 u3 (List.replicate k (-1 : Int)).length (numL (List.replicate k (-1))) := fun o => World.ownsRow.alloc hown o
      have HOWN := Lib.hid hown
      have HBW := Lib.hid hbw
      clear hown hbw
      go_wp2_with (at_builtin; refine wpList_append_own _ rfl (.tmp 7) (.tmp 8) _ rfl w.heap.size 3 i0 _ 1 8 Try.underlying31 hi hz0 hz1 hz2 rfl (by omega) u3 _ _ rfl (hO _) ⟨wr.heap.size, 0, none⟩ 1 1 [.int .i64 (-1)] rfl rfl (one_new _ _ _) (by simp [Value.oneCell']) (by simp [maxLen]; omega) (by simp; omega) (by simp; omega) ?_; intro v1 w1 hown1 hg1 _)
      go_roundw
      case rel =>
        obtain ⟨h1, h2, _⟩ := own_put HOWN.out HBW.out (Nat.le_refl _) hsz hown1 hg1
        exact ⟨k + 1, by omega, by go_num, by rw [← rep_put]; exact h1, h2⟩
      case measure => simp [intOf]; omega
    · obtain rfl : k = n := by omega
      have d1 : decide ((k : Int) < (k : Int)) = false := by simp
      go_wp2_with fail
      go_ret
      exact ⟨_, rfl, hown.ints, hbw⟩
/-- the samples of a line's centres -/
def lineL (W H B : Int) (s : ByteArray) (a b c d e f y : Int) (n : Nat) : List Int := (List.range n).map fun (k : Nat) => AtV W H B s a b c d e f (16 * (k : Int) + 8) y
theorem lineL_len (W H B : Int) (s : ByteArray) (a b c d e f y : Int) (n : Nat) : (lineL W H B s a b c d e f y n).length = n := by simp [lineL]
theorem lineL_put (W H B : Int) (s : ByteArray) (a b c d e f y : Int) (k : Nat) : lineL W H B s a b c d e f y k ++ [AtV W H B s a b c d e f (16 * (k : Int) + 8) y] = lineL W H B s a b c d e f y (k + 1) := by
  simp [lineL, List.range_succ]
theorem info_int : (Try.prog.info? 3).map (fun i => (i.zero, i.size, i.bytes)) = some (some (.int .i64 0), 1, 8) := by kernel_rfl

set_option maxRecDepth 100000 in
set_option maxHeartbeats 1600000 in
theorem rLine_any (W H B a b c d e f y : Int) (n : Nat) (s : ByteArray) (w : World) (hs : (s.size : Int) ≤ 9223372036854775807) (hn : n ≤ 64) : Calls Try.prog 22 #[.agg #[.int .i64 W, .int .i64 H, .int .i64 B, .string s], .agg #[.int .i64 a, .int .i64 b, .int .i64 c, .int .i64 d, .int .i64 e, .int .i64 f], .int .i64 y, .int .i64 (n : Int)] w fun ed w' => ∃ v, ed = .returned v ∧ IntsV w' v (lineL W H B s a b c d e f y n) ∧ Below w.heap.size w w' := by
  obtain ⟨i0, hi, hz0, hz1, hz2⟩ := info_parts info_int
  have Ki := (Blk.new w 23 #[.int .i64 W, .int .i64 H, .int .i64 B, .string s]).alloc (.cells #[.int .i64 a, .int .i64 b, .int .i64 c, .int .i64 d, .int .i64 e, .int .i64 f] 25)
  have Km := Blk.new (w.alloc (.cells #[.int .i64 W, .int .i64 H, .int .i64 B, .string s] 23)) 25 #[.int .i64 a, .int .i64 b, .int .i64 c, .int .i64 d, .int .i64 e, .int .i64 f]
  have s1 : (w.alloc (.cells #[.int .i64 W, .int .i64 H, .int .i64 B, .string s] 23)).heap.size = w.heap.size + 1 := by simp
  rw [s1] at Km
  clear s1
  have hbw : Below w.heap.size w ((w.alloc (.cells #[.int .i64 W, .int .i64 H, .int .i64 B, .string s] 23)).alloc (.cells #[.int .i64 a, .int .i64 b, .int .i64 c, .int .i64 d, .int .i64 e, .int .i64 f] 25)) := by (repeat' (first | exact Below.refl _ _ | exact Below.refl _ _ | refine balloc ?_ _ | refine Below.drew ?_ | refine below_drewN ?_ _ | refine bset ?_ (by first | omega | (simp <;> omega)) _))
  have hw2 : w.heap.size + 2 ≤ ((w.alloc (.cells #[.int .i64 W, .int .i64 H, .int .i64 B, .string s] 23)).alloc (.cells #[.int .i64 a, .int .i64 b, .int .i64 c, .int .i64 d, .int .i64 e, .int .i64 f] 25)).heap.size := by simp
  have HKi := Lib.hid Ki
  have HKm := Lib.hid Km
  have HBW := Lib.hid hbw
  have hn2 : ¬ (64 : Int) < (n : Int) := by omega
  clear Ki Km hbw
  go_enter Try.func22, Try.ntmps22
  go_wp2_with fail
  go_loopw [9, 10] (fun v iv wr => ∃ k : Nat, k ≤ n ∧ iv = .int .i64 (k : Int) ∧ OwnInts wr (w.heap.size + 2) v (lineL W H B s a b c d e f y k) ∧ Blk wr w.heap.size 23 #[.int .i64 W, .int .i64 H, .int .i64 B, .string s] ∧ Blk wr (w.heap.size + 1) 25 #[.int .i64 a, .int .i64 b, .int .i64 c, .int .i64 d, .int .i64 e, .int .i64 f] ∧ w.heap.size + 2 ≤ wr.heap.size ∧ Below w.heap.size w wr) (fun _ iv _ => n - (intOf iv).toNat)
  case atStart => exact ⟨0, by omega, rfl, World.ownsRow_nil _ _ _ _, HKi.out, HKm.out, hw2, HBW.out⟩
  case round =>
    clear HKi HKm HBW hw2
    obtain ⟨k, hk, rfl, hown, Ki, Km, hsz, hbw⟩ := hrel
    by_cases hlt : k < n
    · have d1 : decide ((k : Int) < (n : Int)) = true := by simp; omega
      have HA := Lib.hid (fun W' => rAt_any W H B a b c d e f (16 * (k : Int) + 8) y s W' hs)
      generalize hz : AtV W H B s a b c d e f (16 * (k : Int) + 8) y = z at *
      have HZ := Lib.hid hz
      clear hz
      have HOWN := Lib.hid hown
      clear hown

      have lKi := Ki.lt
      have cKi0 := Ki.cell 0
      have cKi1 := Ki.cell 1
      have cKi2 := Ki.cell 2
      have cKi3 := Ki.cell 3
      have lKm := Km.lt
      have cKm0 := Km.cell 0
      have cKm1 := Km.cell 1
      have cKm2 := Km.cell 2
      have cKm3 := Km.cell 3
      have cKm4 := Km.cell 4
      have cKm5 := Km.cell 5
      simp only [List.getElem?_toArray, List.getElem?_cons_succ, List.getElem?_cons_zero] at cKi0 cKi1 cKi2 cKi3 cKm0 cKm1 cKm2 cKm3 cKm4 cKm5
      go_wp2_with fail
      refine (HA.out _).mono ?_
      rintro e_ w1 ⟨rfl, hb1⟩
      replace Ki := Ki.below hb1 lKi
      replace Km := Km.below hb1 lKm
      replace hbw := btrans hbw hb1
      have hown := own_below HOWN.out hb1
      have hsz2 := hb1.size
      clear hb1 HA HOWN lKi cKi0 cKi1 cKi2 cKi3 lKm cKm0 cKm1 cKm2 cKm3 cKm4 cKm5
      have hsz3 : w.heap.size + 2 ≤ w1.heap.size := by omega
      have hO : ∀ o, (w1.alloc o).ownsRow (w.heap.size + 2) 3 1 u9 (lineL W H B s a b c d e f y k).length (numL (lineL W H B s a b c d e f y k)) := fun o => World.ownsRow.alloc hown o
      have HOWN := Lib.hid hown
      have HBW := Lib.hid hbw
      have HKi := Lib.hid Ki
      have HKm := Lib.hid Km
      have hll := lineL_len W H B s a b c d e f y k
      clear hown hbw Ki Km
      go_wp2_with (at_builtin; refine wpList_append_own _ rfl (.tmp 18) (.tmp 26) _ rfl (w.heap.size + 2) 3 i0 _ 1 8 Try.underlying31 hi hz0 hz1 hz2 rfl (by omega) u9 _ _ rfl (hO _) ⟨w1.heap.size, 0, none⟩ 1 1 [.int .i64 z] rfl rfl (one_new _ _ _) (by simp [Value.oneCell']) (by rw [hll]; simp [maxLen]; omega) (by rw [hll]; omega) (by simp; omega) ?_; intro v1 wq hown1 hg1 _)
      go_roundw
      case rel =>
        obtain ⟨h1, h2, h3, h4⟩ := own_put HOWN.out HBW.out (by omega) hsz3 hown1 hg1
        refine ⟨k + 1, by omega, by go_num, ?_, h4 _ _ _ HKi.out (by omega), h4 _ _ _ HKm.out (by omega), h3, h2⟩
        rw [← HZ.out, lineL_put] at h1
        exact h1
      case measure => simp [intOf]; omega
    · obtain rfl : k = n := by omega
      have d1 : decide ((k : Int) < (k : Int)) = false := by simp
      go_wp2_with fail
      go_ret
      exact ⟨_, rfl, hown.ints, hbw⟩

set_option maxRecDepth 100000 in
set_option maxHeartbeats 1600000 in
theorem same_eq (l : List Int) (va vb : Value) (w : World) (ha : IntsV w va l) (hb : IntsV w vb l) (hn : l.length ≤ 4096) : Calls Try.prog 20 #[va, vb] w fun ed w' => ed = .returned (.bool true) ∧ Below w.heap.size w w' := by
  obtain ⟨A, c, rfl, hA⟩ := ha
  obtain ⟨B, c2, rfl, hB⟩ := hb
  go_enter Try.func20, Try.ntmps20
  go_wp2_with fail
  go_loopw [5] (fun iv wr => ∃ k : Nat, k ≤ l.length ∧ iv = .int .i64 (k : Int) ∧ Below w.heap.size w wr) (fun iv _ => l.length - (intOf iv).toNat)
  case atStart => exact ⟨0, by omega, rfl, Below.refl _ _⟩
  case round =>
    obtain ⟨k, hk, rfl, hbw⟩ := hrel
    by_cases hlt : k < l.length
    · have d1 : decide ((k : Int) < (l.length : Int)) = true := by simp; omega
      obtain ⟨b, rfl, hbl, hc⟩ := hA (by omega)
      obtain ⟨b2, rfl, hbl2, hc2⟩ := hB (by omega)
      have q1 := (hbw.cell (p := ⟨b, k, none⟩) hbl).trans (hc k (by omega))
      have q2 := (hbw.cell (p := ⟨b2, k, none⟩) hbl2).trans (hc2 k (by omega))
      generalize l[k]'(by omega) = x at q1 q2
      clear hc hc2 hA hB
      have r1 : b < wr.heap.size := Nat.lt_of_lt_of_le hbl hbw.size
      have r2 : b2 < wr.heap.size := Nat.lt_of_lt_of_le hbl2 hbw.size
      have u1 : ∀ u : Up wr, u.val.cell? ⟨b, k, none⟩ = some (.int .i64 x) := fun u => (u.cell r1).trans q1
      have u2 : ∀ u : Up wr, u.val.cell? ⟨b2, k, none⟩ = some (.int .i64 x) := fun u => (u.cell r2).trans q2
      have HBW := Lib.hid hbw
      clear hbw
      go_wp2_with fail
      refine wp_region_up (by kernel_rfl) (by kernel_rfl) ?_
      repeat (go_big_quiet_step (fail))
      refine wpQuiet_nil ?_
      rintro _ ⟨uq, rfl⟩
      have hbw := btrans HBW.out uq.ok
      generalize hwx : uq.val = wx at *
      clear hwx uq u1 u2 HBW q1 q2 r1 r2
      go_wp2_with fail
      go_roundw
      case rel => exact ⟨k + 1, by omega, by go_num, hbw⟩
      case measure => simp [intOf]; omega
    · have hkn : k = l.length := by omega
      have d1 : decide ((k : Int) < (l.length : Int)) = false := by simp; omega
      go_wp2_with fail
      go_ret
      exact ⟨rfl, hbw⟩

end Go.Proofs.Ytegpjjkbbdfggaa.im

/-
  Layer 37: Line.
-/
namespace Go.Proofs.Ytegpjjkbbdfggaa.im
set_option linter.unusedVariables false
set_option linter.unusedSimpArgs false
open Go.RowKit bs mt

theorem lineL_rest {W H B : Int} {s : ByteArray} {a b c d e f y : Int} (n : Nat) (h : ∀ x, AtV W H B s a b c d e f x y = -1) : lineL W H B s a b c d e f y n = List.replicate n (-1) := by
  unfold lineL
  apply List.ext_getElem
  · simp
  · intro i h1 h2
    simp [h]
def wayX (c d e f y : Int) (k : Nat) : Int := d * ((16 * (k : Int) + 8) * 65536 - e) - c * (y * 65536 - f)
def wayZ (a b e f y : Int) (k : Nat) : Int := a * (y * 65536 - f) - b * ((16 * (k : Int) + 8) * 65536 - e)
theorem way_step (d e : Int) (k : Nat) : d * ((16 * ((k + 1 : Nat) : Int) + 8) * 65536 - e) = d * ((16 * (k : Int) + 8) * 65536 - e) + d * 1048576 := by
  rw [show (16 * ((k + 1 : Nat) : Int) + 8) * 65536 - e = ((16 * (k : Int) + 8) * 65536 - e) + 1048576 by omega, Int.mul_add]
theorem AtV_way {W H B : Int} {s : ByteArray} {a b c d e f t y : Int} (hi : mayI W H B s.size = true) (hm : mayB a b c d e f = true) (ht : a * d - b * c = t) (h0 : ¬ t = 0) (hy : -8191 ≤ y ∧ y ≤ 8191) (k : Nat) (hk : k ≤ 64) :
    AtV W H B s a b c d e f (16 * (k : Int) + 8) y = sampV W H B s (downI (wayX c d e f y k) t) (downI (wayZ a b e f y k) t) := by
  unfold AtV atV
  rw [hi, hm, if_pos (show (true && true) = true from rfl), ht, if_neg]
  · rfl
  · rintro (h | h)
    · exact h0 h
    · unfold coordB at h
      simp at h
      omega

set_option maxRecDepth 100000 in
set_option maxHeartbeats 1600000 in
theorem Line_no (W H B a b c d e f t y : Int) (n : Nat) (s : ByteArray) (w : World) (hn : n ≤ 64) 
    (HL : Hid (∀ W', Calls Try.prog 58 #[.agg #[.int .i64 W, .int .i64 H, .int .i64 B, .string s], .agg #[.int .i64 a, .int .i64 b, .int .i64 c, .int .i64 d, .int .i64 e, .int .i64 f]] W' fun ed w' => ed = .returned (.tuple #[.agg #[.int .i64 0, .int .i64 0, .int .i64 0, .string ⟨#[]⟩, .int .i64 0, .int .i64 0, .int .i64 0, .int .i64 0, .int .i64 0, .int .i64 0, .int .i64 0], .bool false]) ∧ Below W'.heap.size W' w')) : Calls Try.prog 21 #[.agg #[.int .i64 W, .int .i64 H, .int .i64 B, .string s], .agg #[.int .i64 a, .int .i64 b, .int .i64 c, .int .i64 d, .int .i64 e, .int .i64 f], .int .i64 y, .int .i64 (n : Int)] w fun ed w' => ∃ v, ed = .returned v ∧ IntsV w' v (List.replicate n (-1)) ∧ Below w.heap.size w w' := by
  have HR := Lib.hid (fun W' => rest_any n W' hn)
  go_enter Try.func21, Try.ntmps21
  have g1 : decide ((n : Int) < 0) = false := by simp
  have g2 : decide (64 < (n : Int)) = false := by simp; omega
  go_wp2_with fail
  refine (HL.out _).mono ?_
  rintro e_ w1 ⟨rfl, hb1⟩
  have Ki := ((Blk.new w 23 #[.int .i64 W, .int .i64 H, .int .i64 B, .string s]).alloc (.cells #[.int .i64 a, .int .i64 b, .int .i64 c, .int .i64 d, .int .i64 e, .int .i64 f] 25))
  have Km := (Blk.new (w.alloc (.cells #[.int .i64 W, .int .i64 H, .int .i64 B, .string s] 23)) 25 #[.int .i64 a, .int .i64 b, .int .i64 c, .int .i64 d, .int .i64 e, .int .i64 f])
  have hz_Km : (w.alloc (.cells #[.int .i64 W, .int .i64 H, .int .i64 B, .string s] 23)).heap.size = w.heap.size + 1 := by simp
  rw [hz_Km] at Km
  clear hz_Km
  replace Ki := Ki.below hb1 Ki.lt
  replace Km := Km.below hb1 Km.lt
  have hbw : Below w.heap.size w w1 := btrans (by (repeat' (first | exact Below.refl _ _ | exact Below.refl _ _ | refine balloc ?_ _ | refine Below.drew ?_ | refine below_drewN ?_ _ | refine bset ?_ (by first | omega | (simp <;> omega)) _))) hb1
  clear hb1 
  have lKi := Ki.lt
  have cKi0 := Ki.cell 0
  have cKi1 := Ki.cell 1
  have cKi2 := Ki.cell 2
  have cKi3 := Ki.cell 3
  have lKm := Km.lt
  have cKm0 := Km.cell 0
  have cKm1 := Km.cell 1
  have cKm2 := Km.cell 2
  have cKm3 := Km.cell 3
  have cKm4 := Km.cell 4
  have cKm5 := Km.cell 5
  simp only [List.getElem?_toArray, List.getElem?_cons_succ, List.getElem?_cons_zero] at cKi0 cKi1 cKi2 cKi3 cKm0 cKm1 cKm2 cKm3 cKm4 cKm5
  clear g1 g2
  skip
  go_wp2_with fail
  replace Ki := (Ki.alloc (.cells #[.int .i64 0, .int .i64 0, .int .i64 0, .string ⟨#[]⟩, .int .i64 0, .int .i64 0, .int .i64 0, .int .i64 0, .int .i64 0, .int .i64 0, .int .i64 0] 92))
  replace Km := (Km.alloc (.cells #[.int .i64 0, .int .i64 0, .int .i64 0, .string ⟨#[]⟩, .int .i64 0, .int .i64 0, .int .i64 0, .int .i64 0, .int .i64 0, .int .i64 0, .int .i64 0] 92))
  have Kv := (Blk.new w1 92 #[.int .i64 0, .int .i64 0, .int .i64 0, .string ⟨#[]⟩, .int .i64 0, .int .i64 0, .int .i64 0, .int .i64 0, .int .i64 0, .int .i64 0, .int .i64 0])
  replace hbw : Below w.heap.size w (w1.alloc (.cells #[.int .i64 0, .int .i64 0, .int .i64 0, .string ⟨#[]⟩, .int .i64 0, .int .i64 0, .int .i64 0, .int .i64 0, .int .i64 0, .int .i64 0, .int .i64 0] 92)) := by (repeat' (first | refine bset ?_ (by first | omega | (simp <;> omega)) _ | refine balloc ?_ _ | refine Below.drew ?_ | refine below_drewN ?_ _ | exact hbw | exact Below.refl _ _))
  clear lKi cKi0 cKi1 cKi2 cKi3 lKm cKm0 cKm1 cKm2 cKm3 cKm4 cKm5
  generalize hwx : (w1.alloc (.cells #[.int .i64 0, .int .i64 0, .int .i64 0, .string ⟨#[]⟩, .int .i64 0, .int .i64 0, .int .i64 0, .int .i64 0, .int .i64 0, .int .i64 0, .int .i64 0] 92)) = wa at *
  clear hwx
  clear Ki Km
  have lKv := Kv.lt
  have cKv0 := Kv.cell 0
  have cKv1 := Kv.cell 1
  have cKv2 := Kv.cell 2
  have cKv3 := Kv.cell 3
  have cKv4 := Kv.cell 4
  have cKv5 := Kv.cell 5
  have cKv6 := Kv.cell 6
  have cKv7 := Kv.cell 7
  have cKv8 := Kv.cell 8
  have cKv9 := Kv.cell 9
  have cKv10 := Kv.cell 10
  simp only [List.getElem?_toArray, List.getElem?_cons_succ, List.getElem?_cons_zero] at cKv0 cKv1 cKv2 cKv3 cKv4 cKv5 cKv6 cKv7 cKv8 cKv9 cKv10
  refine (HR.out _).mono ?_
  rintro e_ wq ⟨vv, rfl, hv, hbq⟩
  have HV := Lib.hid hv
  replace hbw := btrans hbw hbq
  clear hv hbq
  go_wp2_with fail
  go_ret
  exact ⟨_, rfl, HV.out, hbw⟩

set_option maxRecDepth 100000 in
set_option maxHeartbeats 1600000 in
theorem Line_det (W H B a b c d e f t y : Int) (n : Nat) (s : ByteArray) (w : World) (hn : n ≤ 64) 
    (HL : Hid (∀ W', Calls Try.prog 58 #[.agg #[.int .i64 W, .int .i64 H, .int .i64 B, .string s], .agg #[.int .i64 a, .int .i64 b, .int .i64 c, .int .i64 d, .int .i64 e, .int .i64 f]] W' fun ed w' => ed = .returned (.tuple #[.agg #[.int .i64 W, .int .i64 H, .int .i64 B, .string s, .int .i64 a, .int .i64 b, .int .i64 c, .int .i64 d, .int .i64 e, .int .i64 f, .int .i64 0], .bool true]) ∧ Below W'.heap.size W' w')) : Calls Try.prog 21 #[.agg #[.int .i64 W, .int .i64 H, .int .i64 B, .string s], .agg #[.int .i64 a, .int .i64 b, .int .i64 c, .int .i64 d, .int .i64 e, .int .i64 f], .int .i64 y, .int .i64 (n : Int)] w fun ed w' => ∃ v, ed = .returned v ∧ IntsV w' v (List.replicate n (-1)) ∧ Below w.heap.size w w' := by
  have HR := Lib.hid (fun W' => rest_any n W' hn)
  go_enter Try.func21, Try.ntmps21
  have g1 : decide ((n : Int) < 0) = false := by simp
  have g2 : decide (64 < (n : Int)) = false := by simp; omega
  go_wp2_with fail
  refine (HL.out _).mono ?_
  rintro e_ w1 ⟨rfl, hb1⟩
  have Ki := ((Blk.new w 23 #[.int .i64 W, .int .i64 H, .int .i64 B, .string s]).alloc (.cells #[.int .i64 a, .int .i64 b, .int .i64 c, .int .i64 d, .int .i64 e, .int .i64 f] 25))
  have Km := (Blk.new (w.alloc (.cells #[.int .i64 W, .int .i64 H, .int .i64 B, .string s] 23)) 25 #[.int .i64 a, .int .i64 b, .int .i64 c, .int .i64 d, .int .i64 e, .int .i64 f])
  have hz_Km : (w.alloc (.cells #[.int .i64 W, .int .i64 H, .int .i64 B, .string s] 23)).heap.size = w.heap.size + 1 := by simp
  rw [hz_Km] at Km
  clear hz_Km
  replace Ki := Ki.below hb1 Ki.lt
  replace Km := Km.below hb1 Km.lt
  have hbw : Below w.heap.size w w1 := btrans (by (repeat' (first | exact Below.refl _ _ | exact Below.refl _ _ | refine balloc ?_ _ | refine Below.drew ?_ | refine below_drewN ?_ _ | refine bset ?_ (by first | omega | (simp <;> omega)) _))) hb1
  clear hb1 
  have lKi := Ki.lt
  have cKi0 := Ki.cell 0
  have cKi1 := Ki.cell 1
  have cKi2 := Ki.cell 2
  have cKi3 := Ki.cell 3
  have lKm := Km.lt
  have cKm0 := Km.cell 0
  have cKm1 := Km.cell 1
  have cKm2 := Km.cell 2
  have cKm3 := Km.cell 3
  have cKm4 := Km.cell 4
  have cKm5 := Km.cell 5
  simp only [List.getElem?_toArray, List.getElem?_cons_succ, List.getElem?_cons_zero] at cKi0 cKi1 cKi2 cKi3 cKm0 cKm1 cKm2 cKm3 cKm4 cKm5
  clear g1 g2
  skip
  go_wp2_with fail
  replace Ki := (Ki.alloc (.cells #[.int .i64 W, .int .i64 H, .int .i64 B, .string s, .int .i64 a, .int .i64 b, .int .i64 c, .int .i64 d, .int .i64 e, .int .i64 f, .int .i64 0] 92))
  replace Km := (Km.alloc (.cells #[.int .i64 W, .int .i64 H, .int .i64 B, .string s, .int .i64 a, .int .i64 b, .int .i64 c, .int .i64 d, .int .i64 e, .int .i64 f, .int .i64 0] 92))
  have Kv := (Blk.new w1 92 #[.int .i64 W, .int .i64 H, .int .i64 B, .string s, .int .i64 a, .int .i64 b, .int .i64 c, .int .i64 d, .int .i64 e, .int .i64 f, .int .i64 0])
  replace hbw : Below w.heap.size w (w1.alloc (.cells #[.int .i64 W, .int .i64 H, .int .i64 B, .string s, .int .i64 a, .int .i64 b, .int .i64 c, .int .i64 d, .int .i64 e, .int .i64 f, .int .i64 0] 92)) := by (repeat' (first | refine bset ?_ (by first | omega | (simp <;> omega)) _ | refine balloc ?_ _ | refine Below.drew ?_ | refine below_drewN ?_ _ | exact hbw | exact Below.refl _ _))
  clear lKi cKi0 cKi1 cKi2 cKi3 lKm cKm0 cKm1 cKm2 cKm3 cKm4 cKm5
  generalize hwx : (w1.alloc (.cells #[.int .i64 W, .int .i64 H, .int .i64 B, .string s, .int .i64 a, .int .i64 b, .int .i64 c, .int .i64 d, .int .i64 e, .int .i64 f, .int .i64 0] 92)) = wa at *
  clear hwx
  clear Ki Km
  have lKv := Kv.lt
  have cKv0 := Kv.cell 0
  have cKv1 := Kv.cell 1
  have cKv2 := Kv.cell 2
  have cKv3 := Kv.cell 3
  have cKv4 := Kv.cell 4
  have cKv5 := Kv.cell 5
  have cKv6 := Kv.cell 6
  have cKv7 := Kv.cell 7
  have cKv8 := Kv.cell 8
  have cKv9 := Kv.cell 9
  have cKv10 := Kv.cell 10
  simp only [List.getElem?_toArray, List.getElem?_cons_succ, List.getElem?_cons_zero] at cKv0 cKv1 cKv2 cKv3 cKv4 cKv5 cKv6 cKv7 cKv8 cKv9 cKv10
  refine (HR.out _).mono ?_
  rintro e_ wq ⟨vv, rfl, hv, hbq⟩
  have HV := Lib.hid hv
  replace hbw := btrans hbw hbq
  clear hv hbq
  go_wp2_with fail
  go_ret
  exact ⟨_, rfl, HV.out, hbw⟩

set_option maxRecDepth 100000 in
set_option maxHeartbeats 1600000 in
theorem Line_low (W H B a b c d e f t y : Int) (n : Nat) (s : ByteArray) (w : World) (hn : n ≤ 64) (h0 : ¬ t = 0) (hy : y < -8191)
    (HL : Hid (∀ W', Calls Try.prog 58 #[.agg #[.int .i64 W, .int .i64 H, .int .i64 B, .string s], .agg #[.int .i64 a, .int .i64 b, .int .i64 c, .int .i64 d, .int .i64 e, .int .i64 f]] W' fun ed w' => ed = .returned (.tuple #[.agg #[.int .i64 W, .int .i64 H, .int .i64 B, .string s, .int .i64 a, .int .i64 b, .int .i64 c, .int .i64 d, .int .i64 e, .int .i64 f, .int .i64 t], .bool true]) ∧ Below W'.heap.size W' w')) : Calls Try.prog 21 #[.agg #[.int .i64 W, .int .i64 H, .int .i64 B, .string s], .agg #[.int .i64 a, .int .i64 b, .int .i64 c, .int .i64 d, .int .i64 e, .int .i64 f], .int .i64 y, .int .i64 (n : Int)] w fun ed w' => ∃ v, ed = .returned v ∧ IntsV w' v (List.replicate n (-1)) ∧ Below w.heap.size w w' := by
  have HR := Lib.hid (fun W' => rest_any n W' hn)
  go_enter Try.func21, Try.ntmps21
  have g1 : decide ((n : Int) < 0) = false := by simp
  have g2 : decide (64 < (n : Int)) = false := by simp; omega
  go_wp2_with fail
  refine (HL.out _).mono ?_
  rintro e_ w1 ⟨rfl, hb1⟩
  have Ki := ((Blk.new w 23 #[.int .i64 W, .int .i64 H, .int .i64 B, .string s]).alloc (.cells #[.int .i64 a, .int .i64 b, .int .i64 c, .int .i64 d, .int .i64 e, .int .i64 f] 25))
  have Km := (Blk.new (w.alloc (.cells #[.int .i64 W, .int .i64 H, .int .i64 B, .string s] 23)) 25 #[.int .i64 a, .int .i64 b, .int .i64 c, .int .i64 d, .int .i64 e, .int .i64 f])
  have hz_Km : (w.alloc (.cells #[.int .i64 W, .int .i64 H, .int .i64 B, .string s] 23)).heap.size = w.heap.size + 1 := by simp
  rw [hz_Km] at Km
  clear hz_Km
  replace Ki := Ki.below hb1 Ki.lt
  replace Km := Km.below hb1 Km.lt
  have hbw : Below w.heap.size w w1 := btrans (by (repeat' (first | exact Below.refl _ _ | exact Below.refl _ _ | refine balloc ?_ _ | refine Below.drew ?_ | refine below_drewN ?_ _ | refine bset ?_ (by first | omega | (simp <;> omega)) _))) hb1
  clear hb1 
  have lKi := Ki.lt
  have cKi0 := Ki.cell 0
  have cKi1 := Ki.cell 1
  have cKi2 := Ki.cell 2
  have cKi3 := Ki.cell 3
  have lKm := Km.lt
  have cKm0 := Km.cell 0
  have cKm1 := Km.cell 1
  have cKm2 := Km.cell 2
  have cKm3 := Km.cell 3
  have cKm4 := Km.cell 4
  have cKm5 := Km.cell 5
  simp only [List.getElem?_toArray, List.getElem?_cons_succ, List.getElem?_cons_zero] at cKi0 cKi1 cKi2 cKi3 cKm0 cKm1 cKm2 cKm3 cKm4 cKm5
  clear g1 g2
  have z0 : (t == 0) = false := by simp; exact h0
  have z1 : decide (y < -8191) = true := by simp; exact hy
  go_wp2_with fail
  replace Ki := (Ki.alloc (.cells #[.int .i64 W, .int .i64 H, .int .i64 B, .string s, .int .i64 a, .int .i64 b, .int .i64 c, .int .i64 d, .int .i64 e, .int .i64 f, .int .i64 t] 92))
  replace Km := (Km.alloc (.cells #[.int .i64 W, .int .i64 H, .int .i64 B, .string s, .int .i64 a, .int .i64 b, .int .i64 c, .int .i64 d, .int .i64 e, .int .i64 f, .int .i64 t] 92))
  have Kv := (Blk.new w1 92 #[.int .i64 W, .int .i64 H, .int .i64 B, .string s, .int .i64 a, .int .i64 b, .int .i64 c, .int .i64 d, .int .i64 e, .int .i64 f, .int .i64 t])
  replace hbw : Below w.heap.size w (w1.alloc (.cells #[.int .i64 W, .int .i64 H, .int .i64 B, .string s, .int .i64 a, .int .i64 b, .int .i64 c, .int .i64 d, .int .i64 e, .int .i64 f, .int .i64 t] 92)) := by (repeat' (first | refine bset ?_ (by first | omega | (simp <;> omega)) _ | refine balloc ?_ _ | refine Below.drew ?_ | refine below_drewN ?_ _ | exact hbw | exact Below.refl _ _))
  clear lKi cKi0 cKi1 cKi2 cKi3 lKm cKm0 cKm1 cKm2 cKm3 cKm4 cKm5
  generalize hwx : (w1.alloc (.cells #[.int .i64 W, .int .i64 H, .int .i64 B, .string s, .int .i64 a, .int .i64 b, .int .i64 c, .int .i64 d, .int .i64 e, .int .i64 f, .int .i64 t] 92)) = wa at *
  clear hwx
  clear Ki Km
  have lKv := Kv.lt
  have cKv0 := Kv.cell 0
  have cKv1 := Kv.cell 1
  have cKv2 := Kv.cell 2
  have cKv3 := Kv.cell 3
  have cKv4 := Kv.cell 4
  have cKv5 := Kv.cell 5
  have cKv6 := Kv.cell 6
  have cKv7 := Kv.cell 7
  have cKv8 := Kv.cell 8
  have cKv9 := Kv.cell 9
  have cKv10 := Kv.cell 10
  simp only [List.getElem?_toArray, List.getElem?_cons_succ, List.getElem?_cons_zero] at cKv0 cKv1 cKv2 cKv3 cKv4 cKv5 cKv6 cKv7 cKv8 cKv9 cKv10
  refine (HR.out _).mono ?_
  rintro e_ wq ⟨vv, rfl, hv, hbq⟩
  have HV := Lib.hid hv
  replace hbw := btrans hbw hbq
  clear hv hbq
  go_wp2_with fail
  go_ret
  exact ⟨_, rfl, HV.out, hbw⟩

set_option maxRecDepth 100000 in
set_option maxHeartbeats 1600000 in
theorem Line_high (W H B a b c d e f t y : Int) (n : Nat) (s : ByteArray) (w : World) (hn : n ≤ 64) (h0 : ¬ t = 0) (hy : 8191 < y)
    (HL : Hid (∀ W', Calls Try.prog 58 #[.agg #[.int .i64 W, .int .i64 H, .int .i64 B, .string s], .agg #[.int .i64 a, .int .i64 b, .int .i64 c, .int .i64 d, .int .i64 e, .int .i64 f]] W' fun ed w' => ed = .returned (.tuple #[.agg #[.int .i64 W, .int .i64 H, .int .i64 B, .string s, .int .i64 a, .int .i64 b, .int .i64 c, .int .i64 d, .int .i64 e, .int .i64 f, .int .i64 t], .bool true]) ∧ Below W'.heap.size W' w')) : Calls Try.prog 21 #[.agg #[.int .i64 W, .int .i64 H, .int .i64 B, .string s], .agg #[.int .i64 a, .int .i64 b, .int .i64 c, .int .i64 d, .int .i64 e, .int .i64 f], .int .i64 y, .int .i64 (n : Int)] w fun ed w' => ∃ v, ed = .returned v ∧ IntsV w' v (List.replicate n (-1)) ∧ Below w.heap.size w w' := by
  have HR := Lib.hid (fun W' => rest_any n W' hn)
  go_enter Try.func21, Try.ntmps21
  have g1 : decide ((n : Int) < 0) = false := by simp
  have g2 : decide (64 < (n : Int)) = false := by simp; omega
  go_wp2_with fail
  refine (HL.out _).mono ?_
  rintro e_ w1 ⟨rfl, hb1⟩
  have Ki := ((Blk.new w 23 #[.int .i64 W, .int .i64 H, .int .i64 B, .string s]).alloc (.cells #[.int .i64 a, .int .i64 b, .int .i64 c, .int .i64 d, .int .i64 e, .int .i64 f] 25))
  have Km := (Blk.new (w.alloc (.cells #[.int .i64 W, .int .i64 H, .int .i64 B, .string s] 23)) 25 #[.int .i64 a, .int .i64 b, .int .i64 c, .int .i64 d, .int .i64 e, .int .i64 f])
  have hz_Km : (w.alloc (.cells #[.int .i64 W, .int .i64 H, .int .i64 B, .string s] 23)).heap.size = w.heap.size + 1 := by simp
  rw [hz_Km] at Km
  clear hz_Km
  replace Ki := Ki.below hb1 Ki.lt
  replace Km := Km.below hb1 Km.lt
  have hbw : Below w.heap.size w w1 := btrans (by (repeat' (first | exact Below.refl _ _ | exact Below.refl _ _ | refine balloc ?_ _ | refine Below.drew ?_ | refine below_drewN ?_ _ | refine bset ?_ (by first | omega | (simp <;> omega)) _))) hb1
  clear hb1 
  have lKi := Ki.lt
  have cKi0 := Ki.cell 0
  have cKi1 := Ki.cell 1
  have cKi2 := Ki.cell 2
  have cKi3 := Ki.cell 3
  have lKm := Km.lt
  have cKm0 := Km.cell 0
  have cKm1 := Km.cell 1
  have cKm2 := Km.cell 2
  have cKm3 := Km.cell 3
  have cKm4 := Km.cell 4
  have cKm5 := Km.cell 5
  simp only [List.getElem?_toArray, List.getElem?_cons_succ, List.getElem?_cons_zero] at cKi0 cKi1 cKi2 cKi3 cKm0 cKm1 cKm2 cKm3 cKm4 cKm5
  clear g1 g2
  have z0 : (t == 0) = false := by simp; exact h0
  have z1 : decide (y < -8191) = false := by simp; omega
  have z2 : decide (8191 < y) = true := by simp; exact hy
  go_wp2_with fail
  replace Ki := (Ki.alloc (.cells #[.int .i64 W, .int .i64 H, .int .i64 B, .string s, .int .i64 a, .int .i64 b, .int .i64 c, .int .i64 d, .int .i64 e, .int .i64 f, .int .i64 t] 92))
  replace Km := (Km.alloc (.cells #[.int .i64 W, .int .i64 H, .int .i64 B, .string s, .int .i64 a, .int .i64 b, .int .i64 c, .int .i64 d, .int .i64 e, .int .i64 f, .int .i64 t] 92))
  have Kv := (Blk.new w1 92 #[.int .i64 W, .int .i64 H, .int .i64 B, .string s, .int .i64 a, .int .i64 b, .int .i64 c, .int .i64 d, .int .i64 e, .int .i64 f, .int .i64 t])
  replace hbw : Below w.heap.size w (w1.alloc (.cells #[.int .i64 W, .int .i64 H, .int .i64 B, .string s, .int .i64 a, .int .i64 b, .int .i64 c, .int .i64 d, .int .i64 e, .int .i64 f, .int .i64 t] 92)) := by (repeat' (first | refine bset ?_ (by first | omega | (simp <;> omega)) _ | refine balloc ?_ _ | refine Below.drew ?_ | refine below_drewN ?_ _ | exact hbw | exact Below.refl _ _))
  clear lKi cKi0 cKi1 cKi2 cKi3 lKm cKm0 cKm1 cKm2 cKm3 cKm4 cKm5
  generalize hwx : (w1.alloc (.cells #[.int .i64 W, .int .i64 H, .int .i64 B, .string s, .int .i64 a, .int .i64 b, .int .i64 c, .int .i64 d, .int .i64 e, .int .i64 f, .int .i64 t] 92)) = wa at *
  clear hwx
  clear Ki Km
  have lKv := Kv.lt
  have cKv0 := Kv.cell 0
  have cKv1 := Kv.cell 1
  have cKv2 := Kv.cell 2
  have cKv3 := Kv.cell 3
  have cKv4 := Kv.cell 4
  have cKv5 := Kv.cell 5
  have cKv6 := Kv.cell 6
  have cKv7 := Kv.cell 7
  have cKv8 := Kv.cell 8
  have cKv9 := Kv.cell 9
  have cKv10 := Kv.cell 10
  simp only [List.getElem?_toArray, List.getElem?_cons_succ, List.getElem?_cons_zero] at cKv0 cKv1 cKv2 cKv3 cKv4 cKv5 cKv6 cKv7 cKv8 cKv9 cKv10
  refine (HR.out _).mono ?_
  rintro e_ wq ⟨vv, rfl, hv, hbq⟩
  have HV := Lib.hid hv
  replace hbw := btrans hbw hbq
  clear hv hbq
  go_wp2_with fail
  go_ret
  exact ⟨_, rfl, HV.out, hbw⟩

set_option maxRecDepth 100000 in
set_option maxHeartbeats 1600000 in
theorem Line_walk (W H B a b c d e f t y : Int) (n : Nat) (s : ByteArray) (w : World) (hn : n ≤ 64) (hi : mayI W H B s.size = true) (hm : mayB a b c d e f = true) (ht : a * d - b * c = t) (h0 : ¬ t = 0) (hy : -8191 ≤ y ∧ y ≤ 8191)
    (HL : Hid (∀ W', Calls Try.prog 58 #[.agg #[.int .i64 W, .int .i64 H, .int .i64 B, .string s], .agg #[.int .i64 a, .int .i64 b, .int .i64 c, .int .i64 d, .int .i64 e, .int .i64 f]] W' fun ed w' => ed = .returned (.tuple #[.agg #[.int .i64 W, .int .i64 H, .int .i64 B, .string s, .int .i64 a, .int .i64 b, .int .i64 c, .int .i64 d, .int .i64 e, .int .i64 f, .int .i64 t], .bool true]) ∧ Below W'.heap.size W' w')) : Calls Try.prog 21 #[.agg #[.int .i64 W, .int .i64 H, .int .i64 B, .string s], .agg #[.int .i64 a, .int .i64 b, .int .i64 c, .int .i64 d, .int .i64 e, .int .i64 f], .int .i64 y, .int .i64 (n : Int)] w fun ed w' => ∃ v, ed = .returned v ∧ IntsV w' v (lineL W H B s a b c d e f y n) ∧ Below w.heap.size w w' := by
  obtain ⟨i0, hi0, hz0, hz1, hz2⟩ := info_parts info_int
  have hwx := fun k : Nat => way_bd (x := 16 * (k : Int) + 8) (y := y) hm
  obtain ⟨ha, hb, hc, hd, he, hf⟩ := mayB_bd hm
  have hat := fun (k : Nat) hk => AtV_way (W := W) (H := H) (B := B) (s := s) hi hm ht h0 hy k hk
  have hdt := det_bd hm
  have tb : -4611686018427387904 ≤ t ∧ t ≤ 4611686018427387904 := by omega
  have hsp := fun x z W' => sample_may W H B x z s W' hi
  have hWK := Lib.hid (fun W' => walk_any W H B a b c d e f t y _ _ _ _ _ _ s W' hy.1 hy.2 he.1 he.2 hf.1 hf.2 rfl rfl rfl rfl rfl rfl (by have := hwx 0 ⟨by omega, by omega⟩ hy; simpa using this.1.1) (by have := hwx 0 ⟨by omega, by omega⟩ hy; simpa using this.1.2) (hwx 0 ⟨by omega, by omega⟩ hy).2.1.1 (hwx 0 ⟨by omega, by omega⟩ hy).2.1.2 (hwx 0 ⟨by omega, by omega⟩ hy).2.2.1.1 (hwx 0 ⟨by omega, by omega⟩ hy).2.2.1.2 (by have := hwx 0 ⟨by omega, by omega⟩ hy; simpa using this.2.2.2.1) (by have := hwx 0 ⟨by omega, by omega⟩ hy; simpa using this.2.2.2.2))
  have hX0 : d * (524288 - e) - c * (y * 65536 - f) = wayX c d e f y 0 := by unfold wayX; simp
  have hZ0 : a * (y * 65536 - f) - b * (524288 - e) = wayZ a b e f y 0 := by unfold wayZ; simp
  rw [hX0, hZ0] at hWK
  have hXb : ∀ k : Nat, k ≤ 65 → -4611686018427387904 ≤ wayX c d e f y k ∧ wayX c d e f y k ≤ 4611686018427387904 := fun k hk => by have := hwx k ⟨by omega, by omega⟩ hy; unfold wayX; omega
  have hZb : ∀ k : Nat, k ≤ 65 → -4611686018427387904 ≤ wayZ a b e f y k ∧ wayZ a b e f y k ≤ 4611686018427387904 := fun k hk => by have := hwx k ⟨by omega, by omega⟩ hy; unfold wayZ; omega
  have hXs : ∀ k : Nat, wayX c d e f y k + d * 1048576 = wayX c d e f y (k + 1) := fun k => by unfold wayX; rw [way_step]; omega
  have hZs : ∀ k : Nat, wayZ a b e f y k - b * 1048576 = wayZ a b e f y (k + 1) := fun k => by unfold wayZ; rw [way_step]; omega
  have d1b : -4611686018427387904 ≤ d * 1048576 ∧ d * 1048576 ≤ 4611686018427387904 := by omega
  have b1b : -4611686018427387904 ≤ b * 1048576 ∧ b * 1048576 ≤ 4611686018427387904 := by omega
  have HST := Lib.hid (fun (k : Nat) (hk : k < 65) (vB xB zB : Nat) (wr : World) (Kv : Blk wr vB 92 #[.int .i64 W, .int .i64 H, .int .i64 B, .string s, .int .i64 a, .int .i64 b, .int .i64 c, .int .i64 d, .int .i64 e, .int .i64 f, .int .i64 t]) (Kx : Blk wr xB 3 #[.int .i64 (wayX c d e f y k)]) (Kz : Blk wr zB 3 #[.int .i64 (wayZ a b e f y k)]) (n1 : vB ≠ xB) (n2 : vB ≠ zB) (n3 : xB ≠ zB) =>
    step_any W H B a b c d e f t (wayX c d e f y k) (wayZ a b e f y k) (d * 1048576) (b * 1048576) (wayX c d e f y (k + 1)) (wayZ a b e f y (k + 1)) _ _ _ vB xB zB s wr Kv Kx Kz n1 n2 n3 rfl rfl (hXs k) (hZs k) d1b.1 d1b.2 b1b.1 b1b.2 (hXb (k + 1) (by omega)).1 (hXb (k + 1) (by omega)).2 (hZb (k + 1) (by omega)).1 (hZb (k + 1) (by omega)).2
      (Lib.hid fun W' => down_any _ _ W' (hXb k (by omega)) tb h0) (Lib.hid fun W' => down_any _ _ W' (hZb k (by omega)) tb h0) (Lib.hid fun W' => hsp _ _ W'))
  have HAT := Lib.hid hat
  clear hwx ha hb hc hd he hf hat hdt tb hsp hX0 hZ0 hXb hZb hXs hZs d1b b1b hi hm ht
  obtain ⟨hy0, hy1⟩ := hy
  have z0 : (t == 0) = false := by simp; exact h0
  have z1 : decide (y < -8191) = false := by simp; omega
  have z2 : decide (8191 < y) = false := by simp; omega
  go_enter Try.func21, Try.ntmps21
  have g1 : decide ((n : Int) < 0) = false := by simp
  have g2 : decide (64 < (n : Int)) = false := by simp; omega
  go_wp2_with fail
  refine (HL.out _).mono ?_
  rintro e_ w1 ⟨rfl, hb1⟩
  have Ki := ((Blk.new w 23 #[.int .i64 W, .int .i64 H, .int .i64 B, .string s]).alloc (.cells #[.int .i64 a, .int .i64 b, .int .i64 c, .int .i64 d, .int .i64 e, .int .i64 f] 25))
  have Km := (Blk.new (w.alloc (.cells #[.int .i64 W, .int .i64 H, .int .i64 B, .string s] 23)) 25 #[.int .i64 a, .int .i64 b, .int .i64 c, .int .i64 d, .int .i64 e, .int .i64 f])
  have hz_Km : (w.alloc (.cells #[.int .i64 W, .int .i64 H, .int .i64 B, .string s] 23)).heap.size = w.heap.size + 1 := by simp
  rw [hz_Km] at Km
  clear hz_Km
  replace Ki := Ki.below hb1 Ki.lt
  replace Km := Km.below hb1 Km.lt
  have hbw : Below w.heap.size w w1 := btrans (by (repeat' (first | exact Below.refl _ _ | exact Below.refl _ _ | refine balloc ?_ _ | refine Below.drew ?_ | refine below_drewN ?_ _ | refine bset ?_ (by first | omega | (simp <;> omega)) _))) hb1
  clear hb1 
  have lKi := Ki.lt
  have cKi0 := Ki.cell 0
  have cKi1 := Ki.cell 1
  have cKi2 := Ki.cell 2
  have cKi3 := Ki.cell 3
  have lKm := Km.lt
  have cKm0 := Km.cell 0
  have cKm1 := Km.cell 1
  have cKm2 := Km.cell 2
  have cKm3 := Km.cell 3
  have cKm4 := Km.cell 4
  have cKm5 := Km.cell 5
  simp only [List.getElem?_toArray, List.getElem?_cons_succ, List.getElem?_cons_zero] at cKi0 cKi1 cKi2 cKi3 cKm0 cKm1 cKm2 cKm3 cKm4 cKm5
  clear g1 g2
  go_wp2_with fail
  replace Ki := (Ki.alloc (.cells #[.int .i64 W, .int .i64 H, .int .i64 B, .string s, .int .i64 a, .int .i64 b, .int .i64 c, .int .i64 d, .int .i64 e, .int .i64 f, .int .i64 t] 92))
  replace Km := (Km.alloc (.cells #[.int .i64 W, .int .i64 H, .int .i64 B, .string s, .int .i64 a, .int .i64 b, .int .i64 c, .int .i64 d, .int .i64 e, .int .i64 f, .int .i64 t] 92))
  have Kv := (Blk.new w1 92 #[.int .i64 W, .int .i64 H, .int .i64 B, .string s, .int .i64 a, .int .i64 b, .int .i64 c, .int .i64 d, .int .i64 e, .int .i64 f, .int .i64 t])
  replace hbw : Below w.heap.size w (w1.alloc (.cells #[.int .i64 W, .int .i64 H, .int .i64 B, .string s, .int .i64 a, .int .i64 b, .int .i64 c, .int .i64 d, .int .i64 e, .int .i64 f, .int .i64 t] 92)) := by (repeat' (first | refine bset ?_ (by first | omega | (simp <;> omega)) _ | refine balloc ?_ _ | refine Below.drew ?_ | refine below_drewN ?_ _ | exact hbw | exact Below.refl _ _))
  clear lKi cKi0 cKi1 cKi2 cKi3 lKm cKm0 cKm1 cKm2 cKm3 cKm4 cKm5
  generalize hwx : (w1.alloc (.cells #[.int .i64 W, .int .i64 H, .int .i64 B, .string s, .int .i64 a, .int .i64 b, .int .i64 c, .int .i64 d, .int .i64 e, .int .i64 f, .int .i64 t] 92)) = wa at *
  clear hwx
  clear Ki Km
  have lKv := Kv.lt
  have cKv0 := Kv.cell 0
  have cKv1 := Kv.cell 1
  have cKv2 := Kv.cell 2
  have cKv3 := Kv.cell 3
  have cKv4 := Kv.cell 4
  have cKv5 := Kv.cell 5
  have cKv6 := Kv.cell 6
  have cKv7 := Kv.cell 7
  have cKv8 := Kv.cell 8
  have cKv9 := Kv.cell 9
  have cKv10 := Kv.cell 10
  simp only [List.getElem?_toArray, List.getElem?_cons_succ, List.getElem?_cons_zero] at cKv0 cKv1 cKv2 cKv3 cKv4 cKv5 cKv6 cKv7 cKv8 cKv9 cKv10
  refine (hWK.out _).mono ?_
  rintro e_ wb ⟨vB, xB, zB, rfl, Kv2, Kx, Kz, ⟨n1, n2, n3⟩, ⟨g1, g2, g3⟩, hbq⟩
  have hws := hbw.size
  replace hbw := btrans hbw hbq
  clear lKv cKv0 cKv1 cKv2 cKv3 cKv4 cKv5 cKv6 cKv7 cKv8 cKv9 cKv10 Kv hbq hWK
  have HKv := Lib.hid Kv2
  have HKx := Lib.hid Kx
  have HKz := Lib.hid Kz
  have HBW := Lib.hid hbw
  have l1 := Kv2.lt
  have l2 := Kx.lt
  have l3 := Kz.lt
  have hwb := hbw.size
  clear Kv2 Kx Kz hbw
  go_wp2_with fail
  go_loopw [12, 46] (fun v iv wr => ∃ k : Nat, k ≤ n ∧ iv = .int .i64 (k : Int) ∧ OwnInts wr wb.heap.size v (lineL W H B s a b c d e f y k) ∧ Blk wr vB 92 #[.int .i64 W, .int .i64 H, .int .i64 B, .string s, .int .i64 a, .int .i64 b, .int .i64 c, .int .i64 d, .int .i64 e, .int .i64 f, .int .i64 t] ∧ Blk wr xB 3 #[.int .i64 (wayX c d e f y k)] ∧ Blk wr zB 3 #[.int .i64 (wayZ a b e f y k)] ∧ wb.heap.size ≤ wr.heap.size ∧ Below w.heap.size w wr) (fun _ iv _ => n - (intOf iv).toNat)
  case atStart => exact ⟨0, by omega, rfl, World.ownsRow_nil _ _ _ _, HKv.out, HKx.out, HKz.out, Nat.le_refl _, HBW.out⟩
  case round =>
    clear HKv HKx HKz HBW
    obtain ⟨k, hk, rfl, hown, Kv, Kx, Kz, hsz, hbw⟩ := hrel
    by_cases hlt : k < n
    · have d1 : decide ((k : Int) < (n : Int)) = true := by simp; omega
      have HC := Lib.hid (HST.out k (by omega) vB xB zB wr Kv Kx Kz n1 n2 n3)
      have HV := Lib.hid Kv
      have HX := Lib.hid Kx
      have HZ := Lib.hid Kz
      have HOWN := Lib.hid hown
      have HBW := Lib.hid hbw
      clear Kv Kx Kz hown hbw
      go_wp2_with fail
      refine HC.out.mono ?_
      rintro e_ w2 ⟨rfl, wm, hbm, rfl⟩
      rw [← HAT.out k (by omega)]
      have Kv := ((HV.out.below hbm HV.out.lt).far (p := ⟨xB, 0, none⟩) n1 (.int .i64 (wayX c d e f y (k + 1)))).far (p := ⟨zB, 0, none⟩) n2 (.int .i64 (wayZ a b e f y (k + 1)))
      have Kx := ((HX.out.below hbm HX.out.lt).set_ 0 (.int .i64 (wayX c d e f y (k + 1)))).far (p := ⟨zB, 0, none⟩) n3 (.int .i64 (wayZ a b e f y (k + 1)))
      have Kz := ((HZ.out.below hbm HZ.out.lt).far (p := ⟨xB, 0, none⟩) (show zB ≠ xB from n3.symm) (.int .i64 (wayX c d e f y (k + 1)))).set_ 0 (.int .i64 (wayZ a b e f y (k + 1)))
      have hown := own_far (own_far (own_below HOWN.out hbm) (p := ⟨xB, 0, none⟩) l2 (.int .i64 (wayX c d e f y (k + 1)))) (p := ⟨zB, 0, none⟩) l3 (.int .i64 (wayZ a b e f y (k + 1)))
      have hbw := bset (bset (btrans HBW.out hbm) (p := ⟨xB, 0, none⟩) (show w.heap.size ≤ xB by omega) (.int .i64 (wayX c d e f y (k + 1)))) (p := ⟨zB, 0, none⟩) (show w.heap.size ≤ zB by omega) (.int .i64 (wayZ a b e f y (k + 1)))
      have hsz3 : wb.heap.size ≤ ((wm.setCell ⟨xB, 0, none⟩ (.int .i64 (wayX c d e f y (k + 1)))).setCell ⟨zB, 0, none⟩ (.int .i64 (wayZ a b e f y (k + 1)))).heap.size := by have := hbm.size; simp; omega
      generalize hw3 : ((wm.setCell ⟨xB, 0, none⟩ (.int .i64 (wayX c d e f y (k + 1)))).setCell ⟨zB, 0, none⟩ (.int .i64 (wayZ a b e f y (k + 1)))) = w3 at *
      clear hw3 hbm HC HV HX HZ HOWN HBW
      generalize hz : AtV W H B s a b c d e f (16 * (k : Int) + 8) y = z at *
      have HZ := Lib.hid hz
      clear hz
      have hO : ∀ o, (w3.alloc o).ownsRow wb.heap.size 3 1 u12 (lineL W H B s a b c d e f y k).length (numL (lineL W H B s a b c d e f y k)) := fun o => World.ownsRow.alloc hown o
      have HOWN := Lib.hid hown
      have HBW := Lib.hid hbw
      have HKv := Lib.hid Kv
      have HKx := Lib.hid Kx
      have HKz := Lib.hid Kz
      have hll := lineL_len W H B s a b c d e f y k
      clear hown hbw Kv Kx Kz
      go_wp2_with (at_builtin; refine wpList_append_own _ rfl (.tmp 48) (.tmp 51) _ rfl wb.heap.size 3 i0 _ 1 8 Try.underlying31 hi0 hz0 hz1 hz2 rfl (by omega) u12 _ _ rfl (hO _) ⟨w3.heap.size, 0, none⟩ 1 1 [.int .i64 z] rfl rfl (one_new _ _ _) (by simp [Value.oneCell']) (by rw [hll]; simp [maxLen]; omega) (by rw [hll]; omega) (by simp; omega) ?_; intro v1 wq hown1 hg1 _)
      go_roundw
      case rel =>
        obtain ⟨h1, h2, h3, h4⟩ := own_put HOWN.out HBW.out hwb hsz3 hown1 hg1
        refine ⟨k + 1, by omega, by go_num, ?_, h4 _ _ _ HKv.out l1, h4 _ _ _ HKx.out l2, h4 _ _ _ HKz.out l3, h3, h2⟩
        rw [← HZ.out, lineL_put] at h1
        exact h1
      case measure => simp [intOf]; omega
    · obtain rfl : k = n := by omega
      have d1 : decide ((k : Int) < (k : Int)) = false := by simp
      go_wp2_with fail
      go_ret
      exact ⟨_, rfl, hown.ints, hbw⟩

theorem Line_any (W H B a b c d e f y : Int) (n : Nat) (s : ByteArray) (w : World) (hs : (s.size : Int) ≤ 9223372036854775807) (hn : n ≤ 64) : Calls Try.prog 21 #[.agg #[.int .i64 W, .int .i64 H, .int .i64 B, .string s], .agg #[.int .i64 a, .int .i64 b, .int .i64 c, .int .i64 d, .int .i64 e, .int .i64 f], .int .i64 y, .int .i64 (n : Int)] w fun ed w' => ∃ v, ed = .returned v ∧ IntsV w' v (lineL W H B s a b c d e f y n) ∧ Below w.heap.size w w' := by
  cases hi : mayI W H B s.size with
  | false =>
    rw [lineL_rest n (fun x => by unfold AtV; rw [hi]; rfl)]
    exact Line_no W H B a b c d e f 0 y n s w hn (Lib.hid fun W' => look_no1 W H B a b c d e f s W' hs hi)
  | true =>
    cases hm : mayB a b c d e f with
    | false =>
      rw [lineL_rest n (fun x => by unfold AtV; rw [hi, hm]; rfl)]
      exact Line_no W H B a b c d e f 0 y n s w hn (Lib.hid fun W' => look_no2 W H B a b c d e f s W' hs hi hm)
    | true =>
      have hd := det_bd hm
      obtain ⟨t, ht⟩ : ∃ t, a * d - b * c = t := ⟨_, rfl⟩
      have HL := Lib.hid (fun W' => look_yes W H B a b c d e f s _ _ t W' hs hi hm rfl rfl ht hd.1.1 hd.1.2 hd.2.1 hd.2.2)
      by_cases h0 : t = 0
      · rw [lineL_rest n (fun x => by unfold AtV atV; rw [hi, hm, ht, if_pos (show (true && true) = true from rfl), if_pos (.inl h0)])]
        subst h0
        exact Line_det W H B a b c d e f 0 y n s w hn HL
      · by_cases hy0 : y < -8191
        · rw [lineL_rest n (fun x => by unfold AtV atV; rw [hi, hm, ht, if_pos (show (true && true) = true from rfl), if_pos (.inr (by unfold coordB; simp; omega))])]
          exact Line_low W H B a b c d e f t y n s w hn h0 hy0 HL
        · by_cases hy1 : 8191 < y
          · rw [lineL_rest n (fun x => by unfold AtV atV; rw [hi, hm, ht, if_pos (show (true && true) = true from rfl), if_pos (.inr (by unfold coordB; simp; omega))])]
            exact Line_high W H B a b c d e f t y n s w hn h0 hy1 HL
          · exact Line_walk W H B a b c d e f t y n s w hn hi hm ht h0 ⟨by omega, by omega⟩ HL
end Go.Proofs.Ytegpjjkbbdfggaa.im

/-
  Layer 37: the document's example.
-/
namespace Go.Proofs.Ytegpjjkbbdfggaa.im
set_option linter.unusedVariables false
set_option linter.unusedSimpArgs false
open Go.RowKit bs mt

set_option maxRecDepth 100000 in
set_option maxHeartbeats 1600000 in
theorem Whole_any (a b c d e f : Int) (w : World) (ha : -1000000 ≤ a ∧ a ≤ 1000000) (hb : -1000000 ≤ b ∧ b ≤ 1000000) (hc : -1000000 ≤ c ∧ c ≤ 1000000) (hd : -1000000 ≤ d ∧ d ≤ 1000000) (he : -1000000 ≤ e ∧ e ≤ 1000000) (hf : -1000000 ≤ f ∧ f ≤ 1000000) :
    Calls Try.prog 34 #[.int .i64 a, .int .i64 b, .int .i64 c, .int .i64 d, .int .i64 e, .int .i64 f] w fun ed w' => ed = .returned (.agg #[.int .i64 (a * 65536), .int .i64 (b * 65536), .int .i64 (c * 65536), .int .i64 (d * 65536), .int .i64 (e * 65536), .int .i64 (f * 65536)]) ∧ Below w.heap.size w w' := by
  obtain ⟨a0, a1⟩ := ha
  obtain ⟨b0, b1⟩ := hb
  obtain ⟨c0, c1⟩ := hc
  obtain ⟨d0, d1⟩ := hd
  obtain ⟨e0, e1⟩ := he
  obtain ⟨f0, f1⟩ := hf
  have K2 := Blk.new w 25 #[.int .i64 0, .int .i64 0, .int .i64 0, .int .i64 0, .int .i64 0, .int .i64 0]
  have q0 := K2.cell 0
  have f0 := K2.frozen 0
  have q1 := K2.cell 1
  have f1 := K2.frozen 1
  have q2 := K2.cell 2
  have f2 := K2.frozen 2
  have q3 := K2.cell 3
  have f3 := K2.frozen 3
  have q4 := K2.cell 4
  have f4 := K2.frozen 4
  have q5 := K2.cell 5
  have f5 := K2.frozen 5
  simp only [List.getElem?_toArray, List.getElem?_cons_succ, List.getElem?_cons_zero] at q0 q1 q2 q3 q4 q5
  clear K2
  go_enter Try.func34, Try.ntmps34
  go_wp2_with fail
  refine ret_struct1 (g := w.heap.size) (t := 25) (cs := #[.int .i64 (a * 65536), .int .i64 (b * 65536), .int .i64 (c * 65536), .int .i64 (d * 65536), .int .i64 (e * 65536), .int .i64 (f * 65536)]) rfl rfl ?_ Try.underlying25 rfl rfl rfl ?_
  · exact Blk.new _ _ _
  · exact ⟨rfl, by (repeat' (first | refine bset ?_ (by first | omega | (simp <;> omega)) _ | refine balloc ?_ _ | refine Below.drew ?_ | refine below_drewN ?_ _ | exact Below.refl _ _ | exact Below.refl _ _))⟩


set_option maxRecDepth 100000 in
set_option maxHeartbeats 1600000 in
theorem known_any (w : World) : Calls Try.prog 13 #[] w fun ed w' => ed = .returned (.bool true) ∧ Below w.heap.size w w' := by
  have hs : ((⟨#[64]⟩ : ByteArray).size : Int) ≤ 9223372036854775807 := by decide
  have HW := Lib.hid (fun W' => show Calls Try.prog 34 #[.int .i64 16, .int .i64 0, .int .i64 0, .int .i64 16, .int .i64 0, .int .i64 0] W' fun ed w' => ed = .returned (.agg #[.int .i64 1048576, .int .i64 0, .int .i64 0, .int .i64 1048576, .int .i64 0, .int .i64 0]) ∧ Below W'.heap.size W' w' from Whole_any 16 0 0 16 0 0 W' (by decide) (by decide) (by decide) (by decide) (by decide) (by decide))
  have HM := Lib.hid (fun W' => show Calls Try.prog 14 #[.agg #[.int .i64 2, .int .i64 1, .int .i64 1, .string ⟨#[64]⟩]] W' fun ed w' => ed = .returned (.bool true) ∧ Below W'.heap.size W' w' by have := may37_any 2 1 1 (⟨#[64]⟩ : ByteArray) W' hs; rw [show mayI 2 1 1 (⟨#[64]⟩ : ByteArray).size = true by kernel_rfl] at this; exact this)
  have HA8 := Lib.hid (fun W' => show Calls Try.prog 18 #[.agg #[.int .i64 2, .int .i64 1, .int .i64 1, .string ⟨#[64]⟩], .agg #[.int .i64 1048576, .int .i64 0, .int .i64 0, .int .i64 1048576, .int .i64 0, .int .i64 0], .int .i64 8, .int .i64 8] W' fun ed w' => ed = .returned (.int .i64 0) ∧ Below W'.heap.size W' w' by have := At_any 2 1 1 1048576 0 0 1048576 0 0 8 8 (⟨#[64]⟩ : ByteArray) W' hs; rw [show AtV 2 1 1 (⟨#[64]⟩ : ByteArray) 1048576 0 0 1048576 0 0 8 8 = 0 by kernel_rfl] at this; exact this)
  have HA24 := Lib.hid (fun W' => show Calls Try.prog 18 #[.agg #[.int .i64 2, .int .i64 1, .int .i64 1, .string ⟨#[64]⟩], .agg #[.int .i64 1048576, .int .i64 0, .int .i64 0, .int .i64 1048576, .int .i64 0, .int .i64 0], .int .i64 24, .int .i64 8] W' fun ed w' => ed = .returned (.int .i64 1) ∧ Below W'.heap.size W' w' by have := At_any 2 1 1 1048576 0 0 1048576 0 0 24 8 (⟨#[64]⟩ : ByteArray) W' hs; rw [show AtV 2 1 1 (⟨#[64]⟩ : ByteArray) 1048576 0 0 1048576 0 0 24 8 = 1 by kernel_rfl] at this; exact this)
  have HA40 := Lib.hid (fun W' => show Calls Try.prog 18 #[.agg #[.int .i64 2, .int .i64 1, .int .i64 1, .string ⟨#[64]⟩], .agg #[.int .i64 1048576, .int .i64 0, .int .i64 0, .int .i64 1048576, .int .i64 0, .int .i64 0], .int .i64 40, .int .i64 8] W' fun ed w' => ed = .returned (.int .i64 (-1)) ∧ Below W'.heap.size W' w' by have := At_any 2 1 1 1048576 0 0 1048576 0 0 40 8 (⟨#[64]⟩ : ByteArray) W' hs; rw [show AtV 2 1 1 (⟨#[64]⟩ : ByteArray) 1048576 0 0 1048576 0 0 40 8 = (-1) by kernel_rfl] at this; exact this)
  have HS := Lib.hid (fun W' => show Calls Try.prog 16 #[.agg #[.int .i64 2, .int .i64 1, .int .i64 1, .string ⟨#[64]⟩], .int .i64 1, .int .i64 0] W' fun ed w' => ed = .returned (.int .i64 1) ∧ Below W'.heap.size W' w' by have := Sample_any 2 1 1 1 0 (⟨#[64]⟩ : ByteArray) W' hs; rw [show (if mayI 2 1 1 (⟨#[64]⟩ : ByteArray).size = true then sampV 2 1 1 (⟨#[64]⟩ : ByteArray) 1 0 else -1) = 1 by kernel_rfl] at this; exact this)
  clear hs
  go_enter Try.func13, Try.ntmps13
  go_wp2_with fail
  refine (HW.out _).mono ?_
  rintro e_ w1 ⟨rfl, hb1⟩
  have hbw : Below w.heap.size w w1 := btrans (by (repeat' (first | exact Below.refl _ _ | exact Below.refl _ _ | refine balloc ?_ _ | refine Below.drew ?_ | refine below_drewN ?_ _ | refine bset ?_ (by first | omega | (simp <;> omega)) _))) hb1
  clear hb1 
  go_wp2_with fail
  refine (HM.out _).mono ?_
  rintro e_ w2 ⟨rfl, hb2⟩
  have Ki := ((Blk.new w1 23 #[.int .i64 2, .int .i64 1, .int .i64 1, .string ⟨#[64]⟩]).alloc (.cells #[.int .i64 1048576, .int .i64 0, .int .i64 0, .int .i64 1048576, .int .i64 0, .int .i64 0] 25))
  have Km := (Blk.new (w1.alloc (.cells #[.int .i64 2, .int .i64 1, .int .i64 1, .string ⟨#[64]⟩] 23)) 25 #[.int .i64 1048576, .int .i64 0, .int .i64 0, .int .i64 1048576, .int .i64 0, .int .i64 0])
  have hz_Km : (w1.alloc (.cells #[.int .i64 2, .int .i64 1, .int .i64 1, .string ⟨#[64]⟩] 23)).heap.size = w1.heap.size + 1 := by simp
  rw [hz_Km] at Km
  clear hz_Km
  replace Ki := Ki.below hb2 Ki.lt
  replace Km := Km.below hb2 Km.lt
  replace hbw : Below w.heap.size w w2 := btrans (by (repeat' (first | refine bset ?_ (by first | omega | (simp <;> omega)) _ | refine balloc ?_ _ | refine Below.drew ?_ | refine below_drewN ?_ _ | exact hbw | exact Below.refl _ _))) hb2
  clear hb2 
  have lKi := Ki.lt
  have cKi0 := Ki.cell 0
  have cKi1 := Ki.cell 1
  have cKi2 := Ki.cell 2
  have cKi3 := Ki.cell 3
  have lKm := Km.lt
  have cKm0 := Km.cell 0
  have cKm1 := Km.cell 1
  have cKm2 := Km.cell 2
  have cKm3 := Km.cell 3
  have cKm4 := Km.cell 4
  have cKm5 := Km.cell 5
  simp only [List.getElem?_toArray, List.getElem?_cons_succ, List.getElem?_cons_zero] at cKi0 cKi1 cKi2 cKi3 cKm0 cKm1 cKm2 cKm3 cKm4 cKm5
  go_wp2_with fail
  refine (HA8.out _).mono ?_
  rintro e_ w3 ⟨rfl, hb3⟩
  replace Ki := Ki.below hb3 Ki.lt
  replace Km := Km.below hb3 Km.lt
  replace hbw : Below w.heap.size w w3 := btrans (by (repeat' (first | refine bset ?_ (by first | omega | (simp <;> omega)) _ | refine balloc ?_ _ | refine Below.drew ?_ | refine below_drewN ?_ _ | exact hbw | exact Below.refl _ _))) hb3
  clear hb3 lKi cKi0 cKi1 cKi2 cKi3 lKm cKm0 cKm1 cKm2 cKm3 cKm4 cKm5
  have lKi := Ki.lt
  have cKi0 := Ki.cell 0
  have cKi1 := Ki.cell 1
  have cKi2 := Ki.cell 2
  have cKi3 := Ki.cell 3
  have lKm := Km.lt
  have cKm0 := Km.cell 0
  have cKm1 := Km.cell 1
  have cKm2 := Km.cell 2
  have cKm3 := Km.cell 3
  have cKm4 := Km.cell 4
  have cKm5 := Km.cell 5
  simp only [List.getElem?_toArray, List.getElem?_cons_succ, List.getElem?_cons_zero] at cKi0 cKi1 cKi2 cKi3 cKm0 cKm1 cKm2 cKm3 cKm4 cKm5
  go_wp2_with fail
  refine (HA24.out _).mono ?_
  rintro e_ w4 ⟨rfl, hb4⟩
  replace Ki := Ki.below hb4 Ki.lt
  replace Km := Km.below hb4 Km.lt
  replace hbw : Below w.heap.size w w4 := btrans (by (repeat' (first | refine bset ?_ (by first | omega | (simp <;> omega)) _ | refine balloc ?_ _ | refine Below.drew ?_ | refine below_drewN ?_ _ | exact hbw | exact Below.refl _ _))) hb4
  clear hb4 lKi cKi0 cKi1 cKi2 cKi3 lKm cKm0 cKm1 cKm2 cKm3 cKm4 cKm5
  have lKi := Ki.lt
  have cKi0 := Ki.cell 0
  have cKi1 := Ki.cell 1
  have cKi2 := Ki.cell 2
  have cKi3 := Ki.cell 3
  have lKm := Km.lt
  have cKm0 := Km.cell 0
  have cKm1 := Km.cell 1
  have cKm2 := Km.cell 2
  have cKm3 := Km.cell 3
  have cKm4 := Km.cell 4
  have cKm5 := Km.cell 5
  simp only [List.getElem?_toArray, List.getElem?_cons_succ, List.getElem?_cons_zero] at cKi0 cKi1 cKi2 cKi3 cKm0 cKm1 cKm2 cKm3 cKm4 cKm5
  go_wp2_with fail
  refine (HA40.out _).mono ?_
  rintro e_ w5 ⟨rfl, hb5⟩
  replace Ki := Ki.below hb5 Ki.lt
  replace Km := Km.below hb5 Km.lt
  replace hbw : Below w.heap.size w w5 := btrans (by (repeat' (first | refine bset ?_ (by first | omega | (simp <;> omega)) _ | refine balloc ?_ _ | refine Below.drew ?_ | refine below_drewN ?_ _ | exact hbw | exact Below.refl _ _))) hb5
  clear hb5 lKi cKi0 cKi1 cKi2 cKi3 lKm cKm0 cKm1 cKm2 cKm3 cKm4 cKm5
  have lKi := Ki.lt
  have cKi0 := Ki.cell 0
  have cKi1 := Ki.cell 1
  have cKi2 := Ki.cell 2
  have cKi3 := Ki.cell 3
  have lKm := Km.lt
  have cKm0 := Km.cell 0
  have cKm1 := Km.cell 1
  have cKm2 := Km.cell 2
  have cKm3 := Km.cell 3
  have cKm4 := Km.cell 4
  have cKm5 := Km.cell 5
  simp only [List.getElem?_toArray, List.getElem?_cons_succ, List.getElem?_cons_zero] at cKi0 cKi1 cKi2 cKi3 cKm0 cKm1 cKm2 cKm3 cKm4 cKm5
  go_wp2_with fail
  refine (HS.out _).mono ?_
  rintro e_ w6 ⟨rfl, hb6⟩
  replace Ki := Ki.below hb6 Ki.lt
  replace Km := Km.below hb6 Km.lt
  replace hbw : Below w.heap.size w w6 := btrans (by (repeat' (first | refine bset ?_ (by first | omega | (simp <;> omega)) _ | refine balloc ?_ _ | refine Below.drew ?_ | refine below_drewN ?_ _ | exact hbw | exact Below.refl _ _))) hb6
  clear hb6 lKi cKi0 cKi1 cKi2 cKi3 lKm cKm0 cKm1 cKm2 cKm3 cKm4 cKm5
  have lKi := Ki.lt
  have cKi0 := Ki.cell 0
  have cKi1 := Ki.cell 1
  have cKi2 := Ki.cell 2
  have cKi3 := Ki.cell 3
  have lKm := Km.lt
  have cKm0 := Km.cell 0
  have cKm1 := Km.cell 1
  have cKm2 := Km.cell 2
  have cKm3 := Km.cell 3
  have cKm4 := Km.cell 4
  have cKm5 := Km.cell 5
  simp only [List.getElem?_toArray, List.getElem?_cons_succ, List.getElem?_cons_zero] at cKi0 cKi1 cKi2 cKi3 cKm0 cKm1 cKm2 cKm3 cKm4 cKm5
  go_wp2_with fail
  go_ret
  exact ⟨rfl, hbw⟩

end Go.Proofs.Ytegpjjkbbdfggaa.im

/-
  Layer 37: Place, Turn, beside.
-/
namespace Go.Proofs.Ytegpjjkbbdfggaa.im
set_option linter.unusedVariables false
set_option linter.unusedSimpArgs false
open Go.RowKit bs mt

theorem tmod_cases (v n : Int) (h0 : 0 < n) : ∃ q : Int, v.tmod n = q ∧ -n < q ∧ q < n ∧ (q < 0 → q + n = v % n) ∧ (0 ≤ q → q = v % n) := by
  refine ⟨_, rfl, ?_⟩
  rcases Int.lt_or_le v 0 with hv | hv
  · have e : v.tmod n = -((-v) % n) := by
      have := Int.neg_tmod (-v) n
      rw [Int.neg_neg] at this
      rw [this, Int.tmod_eq_emod_of_nonneg (by omega)]
    have b0 := Int.emod_nonneg (-v) (show n ≠ 0 by omega)
    have b1 := Int.emod_lt_of_pos (-v) h0
    have c0 := Int.emod_nonneg v (show n ≠ 0 by omega)
    have c1 := Int.emod_lt_of_pos v h0
    have d1 := Int.mul_ediv_add_emod (-v) n
    have d2 := Int.mul_ediv_add_emod v n
    rw [e]
    have key : (v % n = 0 ∧ (-v) % n = 0) ∨ v % n = n - (-v) % n := by
      have hs : n * ((-v) / n + v / n) = -((-v) % n + v % n) := by rw [Int.mul_add]; omega
      have hb : (-v) / n + v / n = 0 ∨ (-v) / n + v / n = -1 := by
        have h1 : n * ((-v) / n + v / n) ≤ 0 := by omega
        have h2 : -(2 * n) < n * ((-v) / n + v / n) := by omega
        have h3 : (-v) / n + v / n ≤ 0 := by
          rcases Int.lt_or_le 0 ((-v) / n + v / n) with h | h
          · have := Int.mul_pos h0 h; omega
          · exact h
        have h4 : -2 < (-v) / n + v / n := by
          rcases Int.lt_or_le (-2) ((-v) / n + v / n) with h | h
          · exact h
          · have := Int.mul_le_mul_of_nonneg_left h (show 0 ≤ n by omega); omega
        omega
      rcases hb with hb | hb <;> rw [hb] at hs <;> omega
    omega
  · rw [Int.tmod_eq_emod_of_nonneg hv]
    have b0 := Int.emod_nonneg v (show n ≠ 0 by omega)
    have b1 := Int.emod_lt_of_pos v h0
    omega

theorem place_any (v n : Int) (w : World) (h0 : 0 < n) (h1 : n ≤ 1152921504606846976) :
    Calls Try.prog 25 #[.int .i64 v, .int .i64 n] w fun e w' => e = .returned (.int .i64 (v % n)) ∧ w = w' := by
  have hne : (n == 0) = false := by simp; omega
  obtain ⟨q, hq, q0, q1, q2, q3⟩ := tmod_cases v n h0
  have Q2 := Lib.hid q2
  have Q3 := Lib.hid q3
  clear q2 q3
  go_enter Try.func25, Try.ntmps25
  go_wp2_with fail
  all_goals go_ret
  all_goals refine ⟨ret_int ?_, rfl⟩
  · exact Q2.out (by omega)
  · exact Q3.out (by omega)


def arrT (a0 a1 a2 a3 a4 a5 i0 i1 i2 i3 i4 i5 : Int) : Nat → Array Value
  | 0 => #[.int .i64 a0, .int .i64 a1, .int .i64 a2, .int .i64 a3, .int .i64 a4, .int .i64 a5]
  | 1 => #[.int .i64 (i0 - 1966080), .int .i64 a1, .int .i64 a2, .int .i64 a3, .int .i64 a4, .int .i64 a5]
  | 2 => #[.int .i64 (i0 - 1966080), .int .i64 (i1 - 1966080), .int .i64 a2, .int .i64 a3, .int .i64 a4, .int .i64 a5]
  | 3 => #[.int .i64 (i0 - 1966080), .int .i64 (i1 - 1966080), .int .i64 (i2 - 1966080), .int .i64 a3, .int .i64 a4, .int .i64 a5]
  | 4 => #[.int .i64 (i0 - 1966080), .int .i64 (i1 - 1966080), .int .i64 (i2 - 1966080), .int .i64 (i3 - 1966080), .int .i64 a4, .int .i64 a5]
  | 5 => #[.int .i64 (i0 - 1966080), .int .i64 (i1 - 1966080), .int .i64 (i2 - 1966080), .int .i64 (i3 - 1966080), .int .i64 (i4 - 1966080), .int .i64 a5]
  | _ => #[.int .i64 (i0 - 1966080), .int .i64 (i1 - 1966080), .int .i64 (i2 - 1966080), .int .i64 (i3 - 1966080), .int .i64 (i4 - 1966080), .int .i64 (i5 - 1966080)]

set_option maxRecDepth 100000 in
set_option maxHeartbeats 1600000 in
theorem turn_walk (a0 a1 a2 a3 a4 a5 i0 i1 i2 i3 i4 i5 : Int) (w : World) (q00 : 0 ≤ i0) (q01 : i0 < 3932160) (q10 : 0 ≤ i1) (q11 : i1 < 3932160) (q20 : 0 ≤ i2) (q21 : i2 < 3932160) (q30 : 0 ≤ i3) (q31 : i3 < 3932160) (q40 : 0 ≤ i4) (q41 : i4 < 3932160) (q50 : 0 ≤ i5) (q51 : i5 < 3932160)
    (HP0 : Hid (∀ W', Calls Try.prog 25 #[.int .i64 a0, .int .i64 3932160] W' fun ed w' => ed = .returned (.int .i64 i0) ∧ W' = w'))
    (HP1 : Hid (∀ W', Calls Try.prog 25 #[.int .i64 a1, .int .i64 3932160] W' fun ed w' => ed = .returned (.int .i64 i1) ∧ W' = w'))
    (HP2 : Hid (∀ W', Calls Try.prog 25 #[.int .i64 a2, .int .i64 3932160] W' fun ed w' => ed = .returned (.int .i64 i2) ∧ W' = w'))
    (HP3 : Hid (∀ W', Calls Try.prog 25 #[.int .i64 a3, .int .i64 3932160] W' fun ed w' => ed = .returned (.int .i64 i3) ∧ W' = w'))
    (HP4 : Hid (∀ W', Calls Try.prog 25 #[.int .i64 a4, .int .i64 3932160] W' fun ed w' => ed = .returned (.int .i64 i4) ∧ W' = w'))
    (HP5 : Hid (∀ W', Calls Try.prog 25 #[.int .i64 a5, .int .i64 3932160] W' fun ed w' => ed = .returned (.int .i64 i5) ∧ W' = w'))
    : Calls Try.prog 24 #[.agg #[.int .i64 a0, .int .i64 a1, .int .i64 a2, .int .i64 a3, .int .i64 a4, .int .i64 a5]] w fun ed w' => ed = .returned (.agg #[.int .i64 (i0 - 1966080), .int .i64 (i1 - 1966080), .int .i64 (i2 - 1966080), .int .i64 (i3 - 1966080), .int .i64 (4 * (i4 - 1966080)), .int .i64 (4 * (i5 - 1966080))]) ∧ Below w.heap.size w w' := by
  have Ka := (Blk.new w 34 #[.int .i64 a0, .int .i64 a1, .int .i64 a2, .int .i64 a3, .int .i64 a4, .int .i64 a5]).alloc (.cells #[.int .i64 0, .int .i64 0, .int .i64 0, .int .i64 0, .int .i64 0, .int .i64 0] 25)
  have Kv := Blk.new (w.alloc (.cells #[.int .i64 a0, .int .i64 a1, .int .i64 a2, .int .i64 a3, .int .i64 a4, .int .i64 a5] 34)) 25 #[.int .i64 0, .int .i64 0, .int .i64 0, .int .i64 0, .int .i64 0, .int .i64 0]
  have s1 : (w.alloc (.cells #[.int .i64 a0, .int .i64 a1, .int .i64 a2, .int .i64 a3, .int .i64 a4, .int .i64 a5] 34)).heap.size = w.heap.size + 1 := by simp
  rw [s1] at Kv
  clear s1
  have hbw : Below w.heap.size w ((w.alloc (.cells #[.int .i64 a0, .int .i64 a1, .int .i64 a2, .int .i64 a3, .int .i64 a4, .int .i64 a5] 34)).alloc (.cells #[.int .i64 0, .int .i64 0, .int .i64 0, .int .i64 0, .int .i64 0, .int .i64 0] 25)) := by (repeat' (first | exact Below.refl _ _ | exact Below.refl _ _ | refine balloc ?_ _ | refine Below.drew ?_ | refine below_drewN ?_ _ | refine bset ?_ (by first | omega | (simp <;> omega)) _))
  have HK := Lib.hid Ka
  have HV := Lib.hid Kv
  have HBW := Lib.hid hbw
  clear Ka Kv hbw
  go_enter Try.func24, Try.ntmps24
  go_wp2_with fail
  go_loopw [3] (fun c wr => ∃ k : Nat, k ≤ 6 ∧ c = .int .i64 k ∧ Blk wr w.heap.size 34 (arrT a0 a1 a2 a3 a4 a5 i0 i1 i2 i3 i4 i5 k) ∧ Blk wr (w.heap.size + 1) 25 #[.int .i64 0, .int .i64 0, .int .i64 0, .int .i64 0, .int .i64 0, .int .i64 0] ∧ Below w.heap.size w wr) (fun c _ => 6 - (intOf c).toNat)
  case atStart => exact ⟨0, by omega, rfl, HK.out, HV.out, HBW.out⟩
  case round =>
    clear HK HV HBW
    obtain ⟨k, hk, rfl, Ka, Kv, hbw⟩ := hrel
    rcases (show k = 0 ∨ k = 1 ∨ k = 2 ∨ k = 3 ∨ k = 4 ∨ k = 5 ∨ k = 6 by omega) with h | h | h | h | h | h | h <;> subst h
    · have c0 := Ka.cell 0
      have f0 := Ka.frozen 0
      simp only [arrT, List.getElem?_toArray, List.getElem?_cons_succ, List.getElem?_cons_zero] at c0
      have HN := Lib.hid (Ka.set_ 0 (.int .i64 (i0 - 1966080)))
      have HV := Lib.hid (Kv.far (p := ⟨w.heap.size, 0, none⟩) (show w.heap.size + 1 ≠ w.heap.size by omega) (.int .i64 (i0 - 1966080)))
      have HB2 := Lib.hid hbw
      clear Ka Kv hbw
      go_wp2_with fail
      refine (HP0.out _).mono ?_
      rintro e_ w_ ⟨rfl, rfl⟩
      go_wp2_with fail
      go_roundw
      case rel => exact ⟨1, by omega, rfl, HN.out, HV.out, bset HB2.out (Nat.le_refl _) _⟩
      case measure => simp [intOf]
    · have c0 := Ka.cell 1
      have f0 := Ka.frozen 1
      simp only [arrT, List.getElem?_toArray, List.getElem?_cons_succ, List.getElem?_cons_zero] at c0
      have HN := Lib.hid (Ka.set_ 1 (.int .i64 (i1 - 1966080)))
      have HV := Lib.hid (Kv.far (p := ⟨w.heap.size, 1, none⟩) (show w.heap.size + 1 ≠ w.heap.size by omega) (.int .i64 (i1 - 1966080)))
      have HB2 := Lib.hid hbw
      clear Ka Kv hbw
      go_wp2_with fail
      refine (HP1.out _).mono ?_
      rintro e_ w_ ⟨rfl, rfl⟩
      go_wp2_with fail
      go_roundw
      case rel => exact ⟨2, by omega, rfl, HN.out, HV.out, bset HB2.out (Nat.le_refl _) _⟩
      case measure => simp [intOf]
    · have c0 := Ka.cell 2
      have f0 := Ka.frozen 2
      simp only [arrT, List.getElem?_toArray, List.getElem?_cons_succ, List.getElem?_cons_zero] at c0
      have HN := Lib.hid (Ka.set_ 2 (.int .i64 (i2 - 1966080)))
      have HV := Lib.hid (Kv.far (p := ⟨w.heap.size, 2, none⟩) (show w.heap.size + 1 ≠ w.heap.size by omega) (.int .i64 (i2 - 1966080)))
      have HB2 := Lib.hid hbw
      clear Ka Kv hbw
      go_wp2_with fail
      refine (HP2.out _).mono ?_
      rintro e_ w_ ⟨rfl, rfl⟩
      go_wp2_with fail
      go_roundw
      case rel => exact ⟨3, by omega, rfl, HN.out, HV.out, bset HB2.out (Nat.le_refl _) _⟩
      case measure => simp [intOf]
    · have c0 := Ka.cell 3
      have f0 := Ka.frozen 3
      simp only [arrT, List.getElem?_toArray, List.getElem?_cons_succ, List.getElem?_cons_zero] at c0
      have HN := Lib.hid (Ka.set_ 3 (.int .i64 (i3 - 1966080)))
      have HV := Lib.hid (Kv.far (p := ⟨w.heap.size, 3, none⟩) (show w.heap.size + 1 ≠ w.heap.size by omega) (.int .i64 (i3 - 1966080)))
      have HB2 := Lib.hid hbw
      clear Ka Kv hbw
      go_wp2_with fail
      refine (HP3.out _).mono ?_
      rintro e_ w_ ⟨rfl, rfl⟩
      go_wp2_with fail
      go_roundw
      case rel => exact ⟨4, by omega, rfl, HN.out, HV.out, bset HB2.out (Nat.le_refl _) _⟩
      case measure => simp [intOf]
    · have c0 := Ka.cell 4
      have f0 := Ka.frozen 4
      simp only [arrT, List.getElem?_toArray, List.getElem?_cons_succ, List.getElem?_cons_zero] at c0
      have HN := Lib.hid (Ka.set_ 4 (.int .i64 (i4 - 1966080)))
      have HV := Lib.hid (Kv.far (p := ⟨w.heap.size, 4, none⟩) (show w.heap.size + 1 ≠ w.heap.size by omega) (.int .i64 (i4 - 1966080)))
      have HB2 := Lib.hid hbw
      clear Ka Kv hbw
      go_wp2_with fail
      refine (HP4.out _).mono ?_
      rintro e_ w_ ⟨rfl, rfl⟩
      go_wp2_with fail
      go_roundw
      case rel => exact ⟨5, by omega, rfl, HN.out, HV.out, bset HB2.out (Nat.le_refl _) _⟩
      case measure => simp [intOf]
    · have c0 := Ka.cell 5
      have f0 := Ka.frozen 5
      simp only [arrT, List.getElem?_toArray, List.getElem?_cons_succ, List.getElem?_cons_zero] at c0
      have HN := Lib.hid (Ka.set_ 5 (.int .i64 (i5 - 1966080)))
      have HV := Lib.hid (Kv.far (p := ⟨w.heap.size, 5, none⟩) (show w.heap.size + 1 ≠ w.heap.size by omega) (.int .i64 (i5 - 1966080)))
      have HB2 := Lib.hid hbw
      clear Ka Kv hbw
      go_wp2_with fail
      refine (HP5.out _).mono ?_
      rintro e_ w_ ⟨rfl, rfl⟩
      go_wp2_with fail
      go_roundw
      case rel => exact ⟨6, by omega, rfl, HN.out, HV.out, bset HB2.out (Nat.le_refl _) _⟩
      case measure => simp [intOf]
    · replace Ka : Blk wr w.heap.size 34 #[.int .i64 (i0 - 1966080), .int .i64 (i1 - 1966080), .int .i64 (i2 - 1966080), .int .i64 (i3 - 1966080), .int .i64 (i4 - 1966080), .int .i64 (i5 - 1966080)] := Ka
      have la := Ka.lt
      have ca0 := Ka.cell 0
      have cv0 := Kv.cell 0
      have fv0 := Kv.frozen 0
      have ca1 := Ka.cell 1
      have cv1 := Kv.cell 1
      have fv1 := Kv.frozen 1
      have ca2 := Ka.cell 2
      have cv2 := Kv.cell 2
      have fv2 := Kv.frozen 2
      have ca3 := Ka.cell 3
      have cv3 := Kv.cell 3
      have fv3 := Kv.frozen 3
      have ca4 := Ka.cell 4
      have cv4 := Kv.cell 4
      have fv4 := Kv.frozen 4
      have ca5 := Ka.cell 5
      have cv5 := Kv.cell 5
      have fv5 := Kv.frozen 5
      simp only [List.getElem?_toArray, List.getElem?_cons_succ, List.getElem?_cons_zero] at ca0 cv0 ca1 cv1 ca2 cv2 ca3 cv3 ca4 cv4 ca5 cv5
      have HV := Lib.hid Kv
      have HBW := Lib.hid hbw
      clear Ka Kv hbw
      go_wp2_with fail
      refine ret_struct1 (g := w.heap.size + 1) (t := 25) (cs := #[.int .i64 (i0 - 1966080), .int .i64 (i1 - 1966080), .int .i64 (i2 - 1966080), .int .i64 (i3 - 1966080), .int .i64 (4 * (i4 - 1966080)), .int .i64 (4 * (i5 - 1966080))]) rfl rfl ?_ Try.underlying25 rfl rfl rfl ?_
      · exact blk_cast ((((((HV.out.set_ 0 (.int .i64 (i0 - 1966080))).set_ 1 (.int .i64 (i1 - 1966080))).set_ 2 (.int .i64 (i2 - 1966080))).set_ 3 (.int .i64 (i3 - 1966080))).set_ 4 (.int .i64 (4 * (i4 - 1966080)))).set_ 5 (.int .i64 (4 * (i5 - 1966080)))) (by kernel_rfl)
      · exact ⟨rfl, by (repeat' (first | refine bset ?_ (by first | omega | (simp <;> omega)) _ | refine balloc ?_ _ | refine Below.drew ?_ | refine below_drewN ?_ _ | exact HBW.out | exact Below.refl _ _))⟩

theorem turn_any (a0 a1 a2 a3 a4 a5 : Int) (w : World) : ∃ i0 i1 i2 i3 i4 i5 : Int, (0 ≤ i0 ∧ i0 < 3932160) ∧ (0 ≤ i1 ∧ i1 < 3932160) ∧ (0 ≤ i2 ∧ i2 < 3932160) ∧ (0 ≤ i3 ∧ i3 < 3932160) ∧ (0 ≤ i4 ∧ i4 < 3932160) ∧ (0 ≤ i5 ∧ i5 < 3932160) ∧ ∀ W, Calls Try.prog 24 #[.agg #[.int .i64 a0, .int .i64 a1, .int .i64 a2, .int .i64 a3, .int .i64 a4, .int .i64 a5]] W fun ed w' => ed = .returned (.agg #[.int .i64 (i0 - 1966080), .int .i64 (i1 - 1966080), .int .i64 (i2 - 1966080), .int .i64 (i3 - 1966080), .int .i64 (4 * (i4 - 1966080)), .int .i64 (4 * (i5 - 1966080))]) ∧ Below W.heap.size W w' := by
  refine ⟨a0 % 3932160, a1 % 3932160, a2 % 3932160, a3 % 3932160, a4 % 3932160, a5 % 3932160, ⟨by omega, by omega⟩, ⟨by omega, by omega⟩, ⟨by omega, by omega⟩, ⟨by omega, by omega⟩, ⟨by omega, by omega⟩, ⟨by omega, by omega⟩, fun W => ?_⟩
  exact turn_walk a0 a1 a2 a3 a4 a5 _ _ _ _ _ _ W (by omega) (by omega) (by omega) (by omega) (by omega) (by omega) (by omega) (by omega) (by omega) (by omega) (by omega) (by omega) (Lib.hid fun W => place_any a0 3932160 W (by decide) (by decide)) (Lib.hid fun W => place_any a1 3932160 W (by decide) (by decide)) (Lib.hid fun W => place_any a2 3932160 W (by decide) (by decide)) (Lib.hid fun W => place_any a3 3932160 W (by decide) (by decide)) (Lib.hid fun W => place_any a4 3932160 W (by decide) (by decide)) (Lib.hid fun W => place_any a5 3932160 W (by decide) (by decide))

/-- is a fix within one of a whole number -/
def besideB (f : Int) : Bool := decide (f % 65536 ≤ 1) || f % 65536 == 65535
set_option maxRecDepth 100000 in
set_option maxHeartbeats 800000 in
theorem beside_any (f : Int) (w : World) : Calls Try.prog 27 #[.int .i64 f] w fun ed w' => ed = .returned (.bool (besideB f)) ∧ w = w' := by
  have HP := Lib.hid (fun W => place_any f 65536 W (by decide) (by decide))
  unfold besideB
  generalize f % 65536 = r at *
  by_cases h : r ≤ 1
  · have h1 : decide (r ≤ 1) = true := by simp; exact h
    rw [h1]
    go_enter Try.func27, Try.ntmps27
    go_wp2_with fail
    refine (HP.out _).mono ?_
    rintro e_ w_ ⟨rfl, rfl⟩
    go_wp2_with fail
    go_ret
    exact ⟨rfl, rfl⟩
  · have h1 : decide (r ≤ 1) = false := by simp; omega
    rw [h1]
    go_enter Try.func27, Try.ntmps27
    go_wp2_with fail
    refine (HP.out _).mono ?_
    rintro e_ w_ ⟨rfl, rfl⟩
    go_wp2_with fail
    go_ret
    exact ⟨rfl, rfl⟩

end Go.Proofs.Ytegpjjkbbdfggaa.im

/-
  How an argument that is a slice of numbers is opened.
-/
namespace Go.Proofs.Ytegpjjkbbdfggaa.op
set_option linter.unusedVariables false
set_option linter.unusedSimpArgs false
open Go.ChangeShapes Go.WideShapes Go.ChangeAt Go.RowKit Go.Joins Go.Deep bs
/-- the slice at A, of length n and capacity c, holds the numbers ns -/
def Ints (w : World) (A : Option Addr) (n c : Nat) (ns : Nat → Int) : Prop :=
  n ≤ c ∧ (0 < n → ∃ b o, A = some ⟨b, o, none⟩ ∧ b < w.heap.size ∧ ∀ j, j < n → w.cell? ⟨b, o + j, none⟩ = some (.int .i64 (ns j)))
theorem Ints.below {w w' : World} {A : Option Addr} {n c : Nat} {ns : Nat → Int} (h : Ints w A n c ns) (hb : Below w.heap.size w w') : Ints w' A n c ns := by
  obtain ⟨h2, h3⟩ := h
  refine ⟨h2, fun hn => ?_⟩
  obtain ⟨b, o, e, hlt, hc⟩ := h3 hn
  exact ⟨b, o, e, Nat.lt_of_lt_of_le hlt hb.size, fun j hj => (hb.cell (p := ⟨b, o + j, none⟩) hlt).trans (hc j hj)⟩

section
variable {H : Type} {enc : TypeId × Value → H} {w : World} {r : Reach} {b0 : Nat} {v : Value} {d : DataW H} {p : List MemPlace}
set_option maxRecDepth 100000 in
theorem open_ints (hv : Value.okWide Try.prog w r b0 31 v) (h : DataW.Trod enc Try.prog w 0 (fun _ => true) true 31 v d p) :
    ∃ (A : Option Addr) (n c : Nat) (ns : Nat → Int), v = .slice A n c ∧ Ints w A n c ns ∧ n ≤ 9223372036854775807 := by
  obtain ⟨A, n, c, rfl⟩ := okWide_slice Try.underlying31 hv
  obtain ⟨fuel, hf⟩ := h
  have hft : DataW.trod enc Try.prog w 0 (fun _ => true) true fuel 31 [.slice A n c] = some (d, p) := by simpa [Value.cells] using hf
  have hC : Try.prog.cellsOf 3 = 1 := by kernel_rfl
  rcases open_slice Try.underlying31 hft with ⟨hcs, _⟩ | ⟨a, len, cap, m, k, D, Pl, hcs, _, hlc, hmx, hm, _, hi⟩
  · simp only [List.cons.injEq, Value.slice.injEq, and_true] at hcs
    obtain ⟨rfl, rfl, rfl⟩ := hcs
    exact ⟨none, 0, 0, fun _ => 0, rfl, ⟨by omega, fun h => absurd h (by omega)⟩, by omega⟩
  · simp only [List.cons.injEq, Value.slice.injEq, and_true] at hcs
    obtain ⟨hA, hn0, hc0⟩ := hcs
    subst hA hn0 hc0
    rw [if_pos rfl] at hm
    rw [hm] at hi
    have key : ∀ i, i < c → ∃ x : Int, w.cell? (a.add i) = some (.int .i64 x) := by
      intro i hic
      obtain ⟨cs', hc, ht'⟩ := hi i hic
      rw [hC] at hc
      obtain ⟨_, hcl, hat⟩ := World.cells?_some hc
      obtain ⟨x, e0, _, _⟩ := DataW.trod_int Try.underlying3 ht'
      have h0 := hat 0 (by omega)
      subst e0
      simp only [Nat.mul_one, Nat.add_zero, Go.Deep.add_add] at h0
      exact ⟨x, by simpa using h0⟩
    obtain ⟨f, hx⟩ : ∃ f : Nat → Int, ∀ i, i < c → w.cell? (a.add i) = some (.int .i64 (f i)) := by
      refine ⟨fun i => if h : i < c then Classical.choose (key i h) else 0, fun i hic => ?_⟩
      simp only [dif_pos hic]
      exact Classical.choose_spec (key i hic)
    refine ⟨some a, n, c, f, rfl, ⟨hlc, fun hn => ?_⟩, by unfold maxLen at hmx; omega⟩
    obtain ⟨b, o, spot⟩ := a
    have hspot : spot = none := by simpa [Addr.add] using World.cell?_spot (hx 0 (by omega))
    subst hspot
    have hlt := block_lt_of_cell (hx 0 (by omega))
    rw [block_of_add] at hlt
    refine ⟨b, o, rfl, hlt, fun j hj => ?_⟩
    have g1 := hx j (by omega)
    rw [Go.WideShapes.add_plain] at g1
    exact g1
end
end Go.Proofs.Ytegpjjkbbdfggaa.op

/-
  Layer 37: Made: an image by numbers.
-/
namespace Go.Proofs.Ytegpjjkbbdfggaa.im
set_option linter.unusedVariables false
set_option linter.unusedSimpArgs false
open Go.RowKit bs mt op

/-- a byte of a made image -/
def madeY (ns : Nat → Int) (n k : Nat) : Int := if 2 < n then ((ns (2 + k % (n - 2)) % 1048576) / 2 ^ (k / (n - 2) % 12)) % 256 else 0
def madeL (ns : Nat → Int) (n L : Nat) : List UInt8 := (List.range L).map fun k => UInt8.ofNat (madeY ns n k).toNat
theorem madeY_bd (ns : Nat → Int) (n k : Nat) : 0 ≤ madeY ns n k ∧ madeY ns n k ≤ 255 := by unfold madeY; split <;> omega
theorem madeL_len (ns : Nat → Int) (n L : Nat) : (madeL ns n L).length = L := by simp [madeL]
theorem madeL_get (ns : Nat → Int) (n L j : Nat) (h : j < (madeL ns n L).length) : ((madeL ns n L)[j].toNat : Int) = madeY ns n j := by
  have := madeY_bd ns n j
  simp only [madeL, List.getElem_map, List.getElem_range]
  rw [UInt8.toNat_ofNat']
  omega
/-- behind k rounds: block g holds the bytes, the first new block the result's place -/
def MadeRel (W0 : World) (g : Nat) (ns : Nat → Int) (n L k : Nat) (wr : World) : Prop :=
  ∃ cs : Array Value, Blk wr g 5 cs ∧ cs.size = L ∧ (∀ j, j < L → ∃ v, cs[j]? = some (.int .u8 v)) ∧ (∀ j, j < k ∨ ¬ 2 < n → j < L → cs[j]? = some (.int .u8 (madeY ns n j))) ∧ Blk wr W0.heap.size 23 #[.int .i64 0, .int .i64 0, .int .i64 0, .string ⟨#[]⟩] ∧ W0.heap.size < g ∧ Below W0.heap.size W0 wr
theorem MadeRel.start {W0 wr : World} (ns : Nat → Int) (n L : Nat) (h : Blk wr W0.heap.size 23 #[.int .i64 0, .int .i64 0, .int .i64 0, .string ⟨#[]⟩]) (hb : Below W0.heap.size W0 wr) (hs : W0.heap.size < wr.heap.size) : MadeRel W0 wr.heap.size ns n L 0 (wr.alloc (.cells (madeCells #[.int .u8 0] L) 5)) := by
  have hg : ∀ j, j < L → (madeCells #[Value.int .u8 0] L)[j]? = some (.int .u8 0) := fun j hj => by simp [madeCells, hj, Nat.mod_one]
  refine ⟨_, Blk.new _ _ _, size_madeCells _ _, fun j hj => ⟨0, hg j hj⟩, fun j hj hl => ?_, h.alloc _, hs, balloc hb _⟩
  rcases hj with hj | hj
  · omega
  · rw [hg j hl]; unfold madeY; rw [if_neg hj]
theorem MadeRel.step {W0 wr : World} {g : Nat} {ns : Nat → Int} {n L k : Nat} (h : MadeRel W0 g ns n L k wr) (hk : k < L) : MadeRel W0 g ns n L (k + 1) (wr.setCell ⟨g, k, none⟩ (.int .u8 (madeY ns n k))) := by
  obtain ⟨cs, h1, h2, h3, h4, h5, h6, h7⟩ := h
  refine ⟨_, h1.set_ k _, by simp [h2], fun j hj => ?_, fun j hj hl => ?_, h5.far (by show W0.heap.size ≠ g; omega) _, h6, bset h7 (by show W0.heap.size ≤ g; omega) _⟩
  · rw [Array.getElem?_setIfInBounds]
    by_cases hjk : k = j
    · subst hjk; exact ⟨madeY ns n k, by simp [h2, hk]⟩
    · simp [hjk, h3 j hj]
  · rw [Array.getElem?_setIfInBounds]
    by_cases hjk : k = j
    · subst hjk; simp [h2, hk]
    · simp only [hjk, if_false]
      exact h4 j (hj.imp (fun h => by omega) id) hl
theorem MadeRel.below {W0 wr w' : World} {g : Nat} {ns : Nat → Int} {n L k : Nat} (h : MadeRel W0 g ns n L k wr) (hb : Below wr.heap.size wr w') : MadeRel W0 g ns n L k w' := by
  obtain ⟨cs, h1, h2, h3, h4, h5, h6, h7⟩ := h
  exact ⟨cs, h1.below hb h1.lt, h2, h3, h4, h5.below hb h5.lt, h6, btrans h7 hb⟩
/-- the string of the bytes -/
theorem MadeRel.str {W0 wr : World} {g : Nat} {ns : Nat → Int} {n L k : Nat} (h : MadeRel W0 g ns n L k wr) (hk : k = L ∨ ¬ 2 < n) (cap : Nat) : (convert 44 9 (.slice (some ⟨g, 0, none⟩) L cap)).run Try.prog wr = .ok (.string ⟨(madeL ns n L).toArray⟩) wr := by
  obtain ⟨cs, h1, h2, h3, h4, _⟩ := h
  have := run_convert_bytes_back (P := Try.prog) wr 44 9 5 ⟨g, 0, none⟩ cap (madeL ns n L) Try.underlying44 Try.underlying5 Try.underlying9 (fun j hj => by
    have hj' : j < L := by rw [madeL_len] at hj; exact hj
    have hadd : (⟨g, 0, none⟩ : Addr).add j = ⟨g, j, none⟩ := by unfold Addr.add; split <;> simp_all
    rw [hadd, h1.cell, h4 j (hk.imp (fun h => by omega) id) hj', madeL_get])
  rw [madeL_len] at this
  exact this

end Go.Proofs.Ytegpjjkbbdfggaa.im

/-
  A region that draws its order: its head reads and calls (the callees may make memory of their own), its last operations come in one forced order and may write: one walk of the head in the class of the worlds that keep what lay, then the tail.
-/
namespace Go.Proofs.Ytegpjjkbbdfggaa.bs
set_option linter.unusedVariables false
set_option linter.unusedSimpArgs false
open Go.RowKit

section
variable {P : Program} {ops : Array Oper} {md : Region.Mode} {C : World → Prop}

/-- the head in whatever order, each step quiet in the class -/
def anyHead (P : Program) (md : Region.Mode) (ops : Array Oper) (C : World → Prop) (n : Nat) (L : Array Bool → Act → Prop) : Nat → Array Bool → Act → Prop
  | 0, listed, a => L listed a
  | k + 1, listed, a => Region.ready md ops listed ≠ [] ∧ ∀ i ∈ Region.ready md ops listed, i < n ∧ qOp P ops C i (anyHead P md ops C n L k (listed.setIfInBounds i true)) a

theorem any_of_head {n g : Nat} {L : Array Bool → Act → Prop} {Q' : Exit → Act → World → Prop} (hL : ∀ listed a w, C w → L listed a → wpAny P md ops Q' g listed a w) (k : Nat) :
    ∀ (listed : Array Bool) (a : Act) (w : World), C w → anyHead P md ops C n L k listed a → wpAny P md ops Q' (k + g) listed a w := by
  induction k with
  | zero =>
    intro listed a w hw h
    rw [Nat.zero_add]
    exact hL _ _ _ hw h
  | succ k ih =>
    intro listed a w hw h
    rw [Nat.add_right_comm]
    exact ⟨fun h0 => absurd h0 h.1, fun i hi => wpOp_of_qOp hw (fun a' w' hw' h' => ih _ a' w' hw' h') (h.2 i hi).2⟩

theorem head_first {n i : Nat} {oi : Oper} {v : Value} {L : Array Bool → Act → Prop} (hi : ops[i]? = some oi) (hsel : ∀ (j : Nat) (o : Oper) cs b, ops[j]? = some o → o.op ≠ .select cs b)
    (hs : Region.sinkB md ops n = true) (hc : Region.chainB md ops n = true) (hn : n < ops.size) (hin : i < n) (hdone : ∀ listed a, L listed a → ∀ j ∈ Region.ready md ops listed, n ≤ j) (k : Nat) :
    ∀ (listed : Array Bool) (a : Act), HeadInv md ops n listed →
      (∀ j oj, ops[j]? = some oj → j ≠ i → listed.getD j true = false → (∀ e ∈ oj.after, Region.binds md e = true → e.on ≠ i) → oi.apart ops oj = true) →
      i ∈ Region.ready md ops listed → YieldsIn P ops C oi v a →
      anyHead P md ops C n L k (listed.setIfInBounds i true) (a.put oi.dst v) → anyHead P md ops C n L (k + 1) listed a := by
  have small : ∀ {listed : Array Bool}, HeadInv md ops n listed → i ∈ Region.ready md ops listed → ∀ j ∈ Region.ready md ops listed, j < n := by
    intro listed inv hr j hj
    rcases Nat.lt_or_ge j n with h | h
    · exact h
    · exact absurd hj (tail_waits hs hc hn inv _ i rfl hin (mem_ready.1 hr).1 j h)
  induction k with
  | zero =>
    intro listed a inv _ hr hy H
    refine ⟨fun h => (by rw [h] at hr; cases hr), fun j hj => ⟨small inv hr j hj, ?_⟩⟩
    by_cases hji : j = i
    · rw [hji]; exact hy.qOp hi H
    · exact absurd (small inv hr j hj) (by have := hdone _ _ H j (ready_mono hj hji); omega)
  | succ k ih =>
    intro listed a inv hfree hr hy H
    refine ⟨fun h => (by rw [h] at hr; cases hr), fun j hj => ⟨small inv hr j hj, ?_⟩⟩
    by_cases hji : j = i
    · rw [hji]; exact hy.qOp hi H
    · obtain ⟨hjun, oj, hoj, hall⟩ := mem_ready.1 hj
      have hnot : ∀ e ∈ oj.after, Region.binds md e = true → e.on ≠ i := fun e he hb heq => by
        have h1 := hall e he hb
        rw [heq, getD_both (mem_ready.1 hr).1] at h1
        cases h1
      have h2 := qOp_put hoj (hfree j oj hoj hji hjun hnot) (fun cs b => hsel i oi cs b hi) (fun cs b => hsel j oj cs b hoj) hy (H.2 j (ready_mono hj hji)).2
      refine qOp_mono (fun a' h3 => ih (listed.setIfInBounds j true) a' (inv.set hj (small inv hr j hj)) ?_ (ready_mono hr (Ne.symm hji)) h3.1 ?_) h2
      · intro m om hm hmi hun hno
        refine hfree m om hm hmi ?_ hno
        by_cases hjm : j = m
        · rw [← hjm]; exact hjun
        · rwa [getD_set_ne true hjm] at hun
      · rw [Array.setIfInBounds_comm _ _ hji]
        exact h3.2

theorem head_lex {n g : Nat} {Lq : Act → Prop} (hsel : Region.noSelect ops = true) (hs : Region.sinkB md ops n = true) (hc : Region.chainB md ops n = true) (hn : n < ops.size) (l : List Oper) :
    ∀ (k : Nat) (listed : Array Bool) (a : Act), (∀ j, j < l.length → l[j]? = ops[k + j]?) → k + l.length = n → HeadInv md ops n listed →
    Region.lexHead md ops g l.length k listed = true → wpQuiet P ops C Lq l a → anyHead P md ops C n (fun listed' a' => Region.seqB md ops g n listed' = true ∧ Lq a') l.length listed a := by
  induction l with
  | nil =>
    intro k listed a _ hk _ hB h
    have e : k = n := by simpa using hk
    rw [← e]
    exact ⟨by simpa [Region.lexHead] using hB, h⟩
  | cons o l ih =>
    intro k listed a hl hk inv hB h
    have h0 : ops[k]? = some o := by simpa using (hl 0 (by simp)).symm
    simp only [List.length_cons, Region.lexHead, Bool.and_eq_true] at hB
    obtain ⟨⟨hr, hf⟩, hB'⟩ := hB
    simp only [List.length_cons] at hk
    have hr' : k ∈ Region.ready md ops listed := by simpa using hr
    have hst : qOp P ops C k (wpQuiet P ops C Lq l) a := by unfold qOp; simp only [h0]; exact h
    obtain ⟨v, hy, hK⟩ := yieldsIn_of_qOp h0 hst
    refine head_first h0 (Region.noSelect_spec hsel) hs hc hn (by omega) (fun listed' a' hL => seqB_ready hL.1) l.length listed a inv (Region.free_spec h0 hf) hr' hy ?_
    refine ih (k + 1) _ _ (fun j hj => ?_) (by omega) (inv.set hr' (by omega)) hB' hK
    have := hl (j + 1) (by simp; omega)
    simpa [Nat.add_assoc, Nat.add_comm 1 j] using this
end

theorem wp_region_up_tail {P : Program} {id : Nat} {Q : Exit → Act → World → Prop} {a : Act} {w : World} {l : List Oper} (n : Nat) (hm : P.follows .mixedOrders = true) (hB : Region.lexTailB .any l.toArray n = true)
    (h : wpQuiet P l.toArray (fun w' => ∃ u : Up w, w' = u.val) (fun a' => ∀ w', (∃ u : Up w, w' = u.val) → wpList P l.toArray Q (l.drop n) a' w') (l.take n) a) : (Code.region id l.toArray true).wp P Q a w := by
  simp only [Region.lexTailB, Bool.and_eq_true, decide_eq_true_eq] at hB
  obtain ⟨⟨⟨⟨hsel, hn⟩, hs⟩, hc⟩, hlex⟩ := hB
  have hn' : n < l.length := by simpa using hn
  have htl : (l.take n).length = n := by simp; omega
  have hdl : (l.drop n).length = l.toArray.size - n := by simp
  have inv0 : HeadInv .any l.toArray n (Array.replicate l.toArray.size false) :=
    ⟨by simp, fun j oj _ hl => (by rw [getD_replicate_false] at hl; cases hl), fun t _ ht => getD_in (by simpa using ht) (getD_replicate_false _ _)⟩
  have H := head_lex (md := .any) (g := l.toArray.size - n) hsel hs hc hn (l.take n) 0 _ a (fun j hj => by
      have hj' : j < n := by rw [htl] at hj; exact hj
      simp [hj']) (by simpa using htl) inv0 (by rw [htl]; exact hlex) h
  refine wp_region_any hm ?_
  have T := any_of_head (C := fun w' => ∃ u : Up w, w' = u.val) (Q' := Q) (g := l.toArray.size - n) (fun listed a' w' hw hL => by
    have := wpAny_of_seq (md := .any) (Q' := Q) (l.drop n) n listed a' w' (fun j => by simp [List.getElem?_drop]) (by rw [hdl]; exact hL.1) (hL.2 w' hw)
    rwa [hdl] at this) _ _ _ { w with drawn := w.drawn + 1 } ⟨Up.of (w' := w.drew) (Below.drew (Below.refl _ _)), rfl⟩ H
  rw [htl, show n + (l.toArray.size - n) = l.toArray.size by omega] at T
  exact T
end Go.Proofs.Ytegpjjkbbdfggaa.bs

/-
  Layer 37: Made.
-/
namespace Go.Proofs.Ytegpjjkbbdfggaa.im
set_option linter.unusedVariables false
set_option linter.unusedSimpArgs false
open Go.RowKit bs mt op

set_option maxRecDepth 100000 in
set_option maxHeartbeats 1600000 in
theorem made_none (A : Option Addr) (n c : Nat) (ns : Nat → Int) (bits B e : Int) (w : World) (hr : Ints w A n c ns) (hn : n ≤ 9223372036854775807) (B0 : 1 ≤ B) (B1 : B ≤ 8) (e0 : 0 ≤ e) (e1 : e < 4) (hBe : (2 : Int) ^ e.toNat = B)
    (HPe : Hid (∀ W', Calls Try.prog 25 #[.int .i64 bits, .int .i64 4] W' fun ed w' => ed = .returned (.int .i64 e) ∧ W' = w'))
    (hn1 : ¬ 1 < n) (hR : (B + 7) / 8 = 1)
    : Calls Try.prog 23 #[.slice A n c, .int .i64 bits] w fun ed w' => ed = .returned (.agg #[.int .i64 1, .int .i64 1, .int .i64 B, .string ⟨(madeL ns n 1).toArray⟩]) ∧ Below w.heap.size w w' := by
  obtain ⟨i0, hi, hz0, hz1, hz2⟩ := info_parts (show (Try.prog.info? 5).map (fun i => (i.zero, i.size, i.bytes)) = some (some (.int .u8 0), 1, 1) by kernel_rfl)
  have hmk := fun W => run_make_rowN (P := Try.prog) 44 5 i0 (.int .u8 0) Try.underlying44 hi hz0 .i64 .i64 1 1 (Nat.le_refl _) (by rw [hz2]; omega) (by omega) W
  simp only [hz1, Nat.mul_one] at hmk
  rw [show ((1 : Nat) : Int) = 1 from rfl] at hmk

  have d0 : decide ((1 : Int) < (n : Int)) = false := by simp; omega
  have d2 : ¬ 2 < n := by omega
  have d3 : decide ((2 : Int) < (n : Int)) = false := by simp; omega
  go_enter Try.func23, Try.ntmps23
  go_wp2_with fail
  refine (HPe.out _).mono ?_
  rintro e_ w_ ⟨rfl, rfl⟩
  go_wp2_with fail
  have Kz := Blk.new w 23 #[.int .i64 0, .int .i64 0, .int .i64 0, .string ⟨#[]⟩]
  have hbw : Below w.heap.size w (w.alloc (.cells #[.int .i64 0, .int .i64 0, .int .i64 0, .string ⟨#[]⟩] 23)) := by (repeat' (first | exact Below.refl _ _ | exact Below.refl _ _ | refine balloc ?_ _ | refine Below.drew ?_ | refine below_drewN ?_ _ | refine bset ?_ (by first | omega | (simp <;> omega)) _))
  have hm0 := MadeRel.start ns n 1 Kz hbw (by simp)
  have hs0 := MadeRel.str hm0 (.inr d2) 1
  rw [show (w.alloc (.cells #[.int .i64 0, .int .i64 0, .int .i64 0, .string ⟨#[]⟩] 23)).heap.size = w.heap.size + 1 by simp] at hm0 hs0
  have HM := Lib.hid hm0
  have HST := Lib.hid hs0
  clear Kz hbw hm0 hs0
  go_wp2_with fail
  go_loopw [9] (fun cv wr => cv = .int .i64 0 ∧ wr = (w.alloc (.cells #[.int .i64 0, .int .i64 0, .int .i64 0, .string ⟨#[]⟩] 23)).alloc (.cells (madeCells #[.int .u8 0] 1) 5)) (fun _ _ => 0)
  case atStart => exact ⟨rfl, rfl⟩
  case round =>
    obtain ⟨rfl, rfl⟩ := hrel
    obtain ⟨cs, _, _, _, _, Kz, _, hbw⟩ := HM.out
    have hst := HST.out
    clear HM HST
    have c0 := Kz.cell 0
    have c1 := Kz.cell 1
    have c2 := Kz.cell 2
    have c3 := Kz.cell 3
    have f0 := Kz.frozen 0
    have f1 := Kz.frozen 1
    have f2 := Kz.frozen 2
    have f3 := Kz.frozen 3
    simp only [List.getElem?_toArray, List.getElem?_cons_succ, List.getElem?_cons_zero] at c0 c1 c2 c3
    have HKz := Lib.hid Kz
    have HBW := Lib.hid hbw
    clear Kz hbw
    go_wp2_with fail
    refine ret_struct1 (g := w.heap.size) (t := 23) (cs := #[.int .i64 1, .int .i64 1, .int .i64 B, .string ⟨(madeL ns n 1).toArray⟩]) rfl rfl ?_ Try.underlying23 rfl rfl rfl ?_
    · exact (Blk.new _ _ _).alloc _
    · exact ⟨rfl, by (repeat' (first | exact Below.refl _ _ | exact Below.refl _ _ | refine balloc ?_ _ | refine Below.drew ?_ | refine below_drewN ?_ _ | refine bset ?_ (by first | omega | (simp <;> omega)) _))⟩

set_option maxRecDepth 100000 in
set_option maxHeartbeats 1600000 in
theorem made_some (A : Option Addr) (n c : Nat) (ns : Nat → Int) (bits B e : Int) (Wn Hn R L : Nat) (w : World) (hr : Ints w A n c ns) (hn : n ≤ 9223372036854775807) (B0 : 1 ≤ B) (B1 : B ≤ 8) (e0 : 0 ≤ e) (e1 : e < 4) (hBe : (2 : Int) ^ e.toNat = B)
    (HPe : Hid (∀ W', Calls Try.prog 25 #[.int .i64 bits, .int .i64 4] W' fun ed w' => ed = .returned (.int .i64 e) ∧ W' = w'))
    (hn1 : 1 < n) (hw0 : 1 + ns 0 % 9 = (Wn : Int)) (hh0 : 1 + ns 1 % 9 = (Hn : Int)) (W0 : 1 ≤ Wn) (W1 : Wn ≤ 9) (H0 : 1 ≤ Hn) (H1 : Hn ≤ 9) (hR : ((Wn : Int) * B + 7) / 8 = (R : Int)) (hRL : (Hn : Int) * (R : Int) = (L : Int)) (hL : L ≤ 81)
    : Calls Try.prog 23 #[.slice A n c, .int .i64 bits] w fun ed w' => ed = .returned (.agg #[.int .i64 (Wn : Int), .int .i64 (Hn : Int), .int .i64 B, .string ⟨(madeL ns n L).toArray⟩]) ∧ Below w.heap.size w w' := by
  obtain ⟨i0, hi, hz0, hz1, hz2⟩ := info_parts (show (Try.prog.info? 5).map (fun i => (i.zero, i.size, i.bytes)) = some (some (.int .u8 0), 1, 1) by kernel_rfl)
  have hmk := fun W => run_make_rowN (P := Try.prog) 44 5 i0 (.int .u8 0) Try.underlying44 hi hz0 .i64 .i64 L L (Nat.le_refl _) (by rw [hz2]; omega) (by omega) W
  simp only [hz1, Nat.mul_one] at hmk

  have hwb : 1 ≤ (Wn : Int) * B ∧ (Wn : Int) * B ≤ 72 := by
    have h1 := Int.mul_nonneg (show (0 : Int) ≤ (Wn : Int) - 1 by omega) (show 0 ≤ B - 1 by omega)
    have h2 := Int.mul_nonneg (show (0 : Int) ≤ 9 - (Wn : Int) by omega) (show 0 ≤ B by omega)
    simp only [Int.sub_mul, Int.mul_sub] at h1 h2
    omega
  obtain ⟨wb0, wb1⟩ := hwb
  generalize hwb : (Wn : Int) * B = wb at *
  obtain ⟨hnc, hcell⟩ := hr
  obtain ⟨b, o, rfl, hbl, hcell⟩ := hcell (by omega)
  have d0 : decide ((1 : Int) < (n : Int)) = true := by simp; omega
  have p0 := hcell 0 (by omega)
  have p1 := hcell 1 (by omega)
  simp only [Nat.add_zero] at p0
  have HP0 := Lib.hid (fun W => place_any (ns 0) 9 W (by decide) (by decide))
  have HP1 := Lib.hid (fun W => place_any (ns 1) 9 W (by decide) (by decide))
  have bq0 : 0 ≤ ns 0 % 9 ∧ ns 0 % 9 ≤ 8 := by omega
  have bq1 : 0 ≤ ns 1 % 9 ∧ ns 1 % 9 ≤ 8 := by omega
  obtain ⟨s0, hs0⟩ : ∃ x, ns 0 % 9 = x := ⟨_, rfl⟩
  obtain ⟨s1, hs1⟩ : ∃ x, ns 1 % 9 = x := ⟨_, rfl⟩
  obtain ⟨x0, hx0⟩ : ∃ x, ns 0 = x := ⟨_, rfl⟩
  obtain ⟨x1, hx1⟩ : ∃ x, ns 1 = x := ⟨_, rfl⟩
  rw [hs0] at hw0 bq0
  rw [hs1] at hh0 bq1
  replace HP0 : Hid (∀ W', Calls Try.prog 25 #[.int .i64 x0, .int .i64 9] W' fun ed w' => ed = .returned (.int .i64 s0) ∧ W' = w') := by have := HP0.out; rw [hs0, hx0] at this; exact Lib.hid this
  replace HP1 : Hid (∀ W', Calls Try.prog 25 #[.int .i64 x1, .int .i64 9] W' fun ed w' => ed = .returned (.int .i64 s1) ∧ W' = w') := by have := HP1.out; rw [hs1, hx1] at this; exact Lib.hid this
  rw [hx0] at p0
  rw [hx1] at p1
  clear hs0 hs1 hx0 hx1
  obtain ⟨bq00, bq01⟩ := bq0
  obtain ⟨bq10, bq11⟩ := bq1
  have HC := Lib.hid hcell
  have HNC := Lib.hid hnc
  clear hcell hnc
  go_enter Try.func23, Try.ntmps23
  go_wp2_with fail
  refine (HPe.out _).mono ?_
  rintro e_ w_ ⟨rfl, rfl⟩
  go_wp2_with fail
  have Kz := (Blk.new w 23 #[.int .i64 0, .int .i64 0, .int .i64 0, .string ⟨#[]⟩])
  have hbw : Below w.heap.size w (w.alloc (.cells #[.int .i64 0, .int .i64 0, .int .i64 0, .string ⟨#[]⟩] 23)) := by (repeat' (first | exact Below.refl _ _ | exact Below.refl _ _ | refine balloc ?_ _ | refine Below.drew ?_ | refine below_drewN ?_ _ | refine bset ?_ (by first | omega | (simp <;> omega)) _))
  generalize hwx : (w.alloc (.cells #[.int .i64 0, .int .i64 0, .int .i64 0, .string ⟨#[]⟩] 23)) = wa at *
  clear hwx
  have lKz := Kz.lt
  have cKz0 := Kz.cell 0
  have cKz1 := Kz.cell 1
  have cKz2 := Kz.cell 2
  have cKz3 := Kz.cell 3
  simp only [List.getElem?_toArray, List.getElem?_cons_succ, List.getElem?_cons_zero] at cKz0 cKz1 cKz2 cKz3
  have p0a := (hbw.cell (p := ⟨b, o, none⟩) hbl).trans p0
  have p1a := (hbw.cell (p := ⟨b, o + 1, none⟩) hbl).trans p1
  have hba := Nat.lt_of_lt_of_le hbl hbw.size
  clear p0 p1
  have v0 : ∀ u : Up wa, u.val.cell? ⟨b, o, none⟩ = some (.int .i64 x0) := fun u => (u.cell hba).trans p0a
  have v1 : ∀ u : Up wa, u.val.cell? ⟨b, o + 1, none⟩ = some (.int .i64 x1) := fun u => (u.cell hba).trans p1a
  have HU0 := Lib.hid (fun u : Up wa => up_same (u := u) (HP0.out u.val))
  have HU1 := Lib.hid (fun u : Up wa => up_same (u := u) (HP1.out u.val))
  refine wp_region_up (by kernel_rfl) (by kernel_rfl) ?_
  repeat (go_big_quiet_step (fail))
  go_big_quiet_step (exact HU0.out _)
  repeat (go_big_quiet_step (fail))
  go_big_quiet_step (exact HU1.out _)
  repeat (go_big_quiet_step (fail))
  refine wpQuiet_nil ?_
  rintro _ ⟨uq, rfl⟩
  replace Kz := Kz.below uq.ok lKz
  replace hbw := btrans hbw uq.ok
  generalize hwx : uq.val = w1 at *
  clear hwx uq lKz cKz0 cKz1 cKz2 cKz3 HU0 HU1 v0 v1 p0a p1a hba HP0 HP1
  have lKz := Kz.lt
  have cKz0 := Kz.cell 0
  have cKz1 := Kz.cell 1
  have cKz2 := Kz.cell 2
  have cKz3 := Kz.cell 3
  simp only [List.getElem?_toArray, List.getElem?_cons_succ, List.getElem?_cons_zero] at cKz0 cKz1 cKz2 cKz3
  have hsw := Kz.lt
  have HM := Lib.hid (MadeRel.start ns n L Kz hbw hsw)
  clear Kz hbw lKz cKz0 cKz1 cKz2 cKz3
  go_wp2_with fail
  go_loopw [9] (fun cv wr => ∃ k : Nat, k ≤ L ∧ cv = .int .i64 k ∧ MadeRel w w1.heap.size ns n L k wr) (fun cv _ => L - (intOf cv).toNat)
  case atStart => exact ⟨0, by omega, rfl, HM.out⟩
  case round =>
    clear HM
    obtain ⟨k, hk, rfl, hrel⟩ := hrel
    by_cases h2 : 2 < n
    · have d3 : decide ((2 : Int) < (n : Int)) = true := by simp; omega
      by_cases hlt : k < L
      · have d4 : decide ((k : Int) < (L : Int)) = true := by simp; omega
        obtain ⟨m, hm, m0⟩ : ∃ m : Nat, n = m + 2 ∧ 0 < m := ⟨n - 2, by omega, by omega⟩
        have hA : (n : Int) - 2 = (m : Int) := by omega
        have hyk : madeY ns n k = ((ns (2 + k % m) % 1048576) / 2 ^ (k / m % 12)) % 256 := by unfold madeY; rw [if_pos h2, show n - 2 = m by omega]
        have hmodn : (k : Int).tmod (m : Int) = ((k % m : Nat) : Int) := by rw [Int.tmod_eq_emod_of_nonneg (by omega)]; push_cast; rfl
        have hdivn : (k : Int).tdiv (m : Int) = ((k / m : Nat) : Int) := by rw [Int.tdiv_eq_ediv_of_nonneg (by omega)]; push_cast; rfl
        have hrlt := Nat.mod_lt k m0
        have hqle : k / m ≤ k := Nat.div_le_self k m
        generalize k % m = r at *
        generalize k / m = q at *
        have htm : (q : Int).tmod 12 = ((q % 12 : Nat) : Int) := by rw [Int.tmod_eq_emod_of_nonneg (by omega)]; push_cast; rfl
        have htl : q % 12 < 12 := Nat.mod_lt q (by omega)
        generalize q % 12 = t at *
        obtain ⟨p, hp⟩ : ∃ p, 2 + r = p := ⟨_, rfl⟩
        have hpI : (2 : Int) + (r : Int) = (p : Int) := by omega
        have hpn : p < n := by omega
        have hc := HC.out p hpn
        rw [hp] at hyk
        obtain ⟨x, hx⟩ : ∃ x, ns p = x := ⟨_, rfl⟩
        rw [hx] at hyk hc
        have HPL := Lib.hid (fun W => place_any x 1048576 W (by decide) (by decide))
        obtain ⟨z, hz⟩ : ∃ z, x % 1048576 = z := ⟨_, rfl⟩
        have hz1 : 0 ≤ z ∧ z < 1048576 := by omega
        replace HPL : Hid (∀ W', Calls Try.prog 25 #[.int .i64 x, .int .i64 1048576] W' fun ed w' => ed = .returned (.int .i64 z) ∧ W' = w') := by have := HPL.out; rw [hz] at this; exact Lib.hid this
        rw [hz] at hyk
        have hmz : ((m : Int) == 0) = false := by simp; omega
        have hsz : w.heap.size ≤ wr.heap.size := by obtain ⟨_, _, _, _, _, _, _, h⟩ := hrel; exact h.size
        have hcr : wr.cell? ⟨b, o + p, none⟩ = some (.int .i64 x) := by obtain ⟨_, _, _, _, _, _, _, h⟩ := hrel; exact (h.cell (p := ⟨b, o + p, none⟩) hbl).trans hc
        have hbr : b < wr.heap.size := Nat.lt_of_lt_of_le hbl hsz
        have hnext := Lib.hid fun (wz : World) (hb : Below wr.heap.size wr wz) => MadeRel.step (hrel.below hb) hlt
        have hcl := Lib.hid fun (wz : World) (hb : Below wr.heap.size wr wz) => show (∃ v, wz.cell? ⟨w1.heap.size, k, none⟩ = some (.int .u8 v)) ∧ wz.frozen? ⟨w1.heap.size, k, none⟩ = false by
          obtain ⟨cs, h1, _, h3, _⟩ := hrel.below hb
          obtain ⟨v, hv⟩ := h3 k hlt
          exact ⟨⟨v, by rw [h1.cell]; exact hv⟩, h1.frozen k⟩
        clear hrel hc hx hz hm hsz
        obtain ⟨hz10, hz11⟩ := hz1
        go_wp2_with fail
        have v2 : ∀ u : Up wr, u.val.cell? ⟨b, o + p, none⟩ = some (.int .i64 x) := fun u => (u.cell hbr).trans hcr
        have HU := Lib.hid (fun u : Up wr => up_same (u := u) (HPL.out u.val))
        refine wp_region_up_tail 22 (by kernel_rfl) (by kernel_rfl) ?_
        simp only [List.take_succ_cons, List.take_zero, List.drop_succ_cons, List.drop_zero]
        repeat (go_big_quiet_step (fail))
        go_big_quiet_step (exact HU.out _)
        repeat (go_big_quiet_step (fail))
        refine wpQuiet_nil ?_
        rintro _ ⟨uq, rfl⟩
        obtain ⟨⟨v9, cv9⟩, fv9⟩ := hcl.out uq.val uq.ok
        have hN := hnext.out uq.val uq.ok
        rw [hyk] at hN
        have HN := Lib.hid hN
        clear hN hcl hnext HU v2 HPL hcr hyk
        generalize hwx : uq.val = wz at *
        clear hwx uq
        go_wp2_with fail
        go_roundw
        case rel => exact ⟨k + 1, by omega, by go_num, HN.out⟩
        case measure => simp [intOf]; omega
      · obtain rfl : L = k := by omega
        have d4 : decide ((L : Int) < (L : Int)) = false := by simp
        have HST := Lib.hid (MadeRel.str hrel (.inl rfl) L)
        obtain ⟨cs, _, _, _, _, Kz, _, hbw⟩ := hrel
        have hst := HST.out
        clear HST
        have c0 := Kz.cell 0
        have c1 := Kz.cell 1
        have c2 := Kz.cell 2
        have c3 := Kz.cell 3
        have f0 := Kz.frozen 0
        have f1 := Kz.frozen 1
        have f2 := Kz.frozen 2
        have f3 := Kz.frozen 3
        simp only [List.getElem?_toArray, List.getElem?_cons_succ, List.getElem?_cons_zero] at c0 c1 c2 c3
        have HKz := Lib.hid Kz
        have HBW := Lib.hid hbw
        clear Kz hbw
        go_wp2_with fail
        refine ret_struct1 (g := w.heap.size) (t := 23) (cs := #[.int .i64 (Wn : Int), .int .i64 (Hn : Int), .int .i64 B, .string ⟨(madeL ns n L).toArray⟩]) rfl rfl ?_ Try.underlying23 rfl rfl rfl ?_
        · exact (((HKz.out.set_ 0 (.int .i64 (Wn : Int))).set_ 1 (.int .i64 (Hn : Int))).set_ 2 (.int .i64 B)).set_ 3 (.string ⟨(madeL ns n L).toArray⟩)
        · exact ⟨rfl, by (repeat' (first | refine bset ?_ (by first | omega | (simp <;> omega)) _ | refine balloc ?_ _ | refine Below.drew ?_ | refine below_drewN ?_ _ | exact HBW.out | exact Below.refl _ _))⟩
    · have d3 : decide ((2 : Int) < (n : Int)) = false := by simp; omega
      have HST := Lib.hid (MadeRel.str hrel (.inr h2) L)
      obtain ⟨cs, _, _, _, _, Kz, _, hbw⟩ := hrel
      have hst := HST.out
      clear HST
      by_cases hlt : k < L
      · have d4 : decide ((k : Int) < (L : Int)) = true := by simp; omega
        have c0 := Kz.cell 0
        have c1 := Kz.cell 1
        have c2 := Kz.cell 2
        have c3 := Kz.cell 3
        have f0 := Kz.frozen 0
        have f1 := Kz.frozen 1
        have f2 := Kz.frozen 2
        have f3 := Kz.frozen 3
        simp only [List.getElem?_toArray, List.getElem?_cons_succ, List.getElem?_cons_zero] at c0 c1 c2 c3
        have HKz := Lib.hid Kz
        have HBW := Lib.hid hbw
        clear Kz hbw
        go_wp2_with fail
        refine ret_struct1 (g := w.heap.size) (t := 23) (cs := #[.int .i64 (Wn : Int), .int .i64 (Hn : Int), .int .i64 B, .string ⟨(madeL ns n L).toArray⟩]) rfl rfl ?_ Try.underlying23 rfl rfl rfl ?_
        · exact (((HKz.out.set_ 0 (.int .i64 (Wn : Int))).set_ 1 (.int .i64 (Hn : Int))).set_ 2 (.int .i64 B)).set_ 3 (.string ⟨(madeL ns n L).toArray⟩)
        · exact ⟨rfl, by (repeat' (first | refine bset ?_ (by first | omega | (simp <;> omega)) _ | refine balloc ?_ _ | refine Below.drew ?_ | refine below_drewN ?_ _ | exact HBW.out | exact Below.refl _ _))⟩
      · have d4 : decide ((k : Int) < (L : Int)) = false := by simp; omega
        have c0 := Kz.cell 0
        have c1 := Kz.cell 1
        have c2 := Kz.cell 2
        have c3 := Kz.cell 3
        have f0 := Kz.frozen 0
        have f1 := Kz.frozen 1
        have f2 := Kz.frozen 2
        have f3 := Kz.frozen 3
        simp only [List.getElem?_toArray, List.getElem?_cons_succ, List.getElem?_cons_zero] at c0 c1 c2 c3
        have HKz := Lib.hid Kz
        have HBW := Lib.hid hbw
        clear Kz hbw
        go_wp2_with fail
        refine ret_struct1 (g := w.heap.size) (t := 23) (cs := #[.int .i64 (Wn : Int), .int .i64 (Hn : Int), .int .i64 B, .string ⟨(madeL ns n L).toArray⟩]) rfl rfl ?_ Try.underlying23 rfl rfl rfl ?_
        · exact (((HKz.out.set_ 0 (.int .i64 (Wn : Int))).set_ 1 (.int .i64 (Hn : Int))).set_ 2 (.int .i64 B)).set_ 3 (.string ⟨(madeL ns n L).toArray⟩)
        · exact ⟨rfl, by (repeat' (first | refine bset ?_ (by first | omega | (simp <;> omega)) _ | refine balloc ?_ _ | refine Below.drew ?_ | refine below_drewN ?_ _ | exact HBW.out | exact Below.refl _ _))⟩

end Go.Proofs.Ytegpjjkbbdfggaa.im

/-
  Layer 37: a sample's bounds, its grey.
-/
namespace Go.Proofs.Ytegpjjkbbdfggaa.im
set_option linter.unusedVariables false
set_option linter.unusedSimpArgs false
open Go.RowKit bs mt

theorem wraps_i64 (n : Int) (h0 : 0 ≤ n) (h1 : n < 2 ^ 63) : IntKind.i64.wrap n = n := by rw [IntKind.wrap_i64]; omega
theorem mask_bits (x : Int) (m : Nat) (hm : m ≤ 8) (h0 : 0 ≤ x) (h1 : x < 2 ^ 63) : bits .and .i64 x (2 ^ m - 1) = x % 2 ^ m := by
  have := bits_mask .i64 63 (by decide) wraps_i64 m (by omega) x h0 h1
  simpa using this
theorem bitsV_bd {b k B : Int} (hb : 0 ≤ b ∧ b ≤ 255) (hB : B = 1 ∨ B = 2 ∨ B = 4 ∨ B = 8) : 0 ≤ bitsV b k B ∧ bitsV b k B < 2 ^ B.toNat := by
  have hq : 0 ≤ b / 2 ^ k.toNat ∧ b / 2 ^ k.toNat ≤ 255 := by
    have hp : (0 : Int) < 2 ^ k.toNat := Int.pow_pos (by decide)
    refine ⟨Int.ediv_nonneg hb.1 (Int.le_of_lt hp), ?_⟩
    exact Int.le_trans (Int.ediv_le_self _ hb.1) hb.2
  unfold bitsV
  generalize b / 2 ^ k.toNat = q at *
  rcases hB with rfl | rfl | rfl | rfl
  · have := mask_bits q 1 (by decide) hq.1 (by omega)
    rw [show wrap64 (wrap64 (2 ^ (1 : Int).toNat) - 1) = 2 ^ 1 - 1 by kernel_rfl, this]
    simp; omega
  · have := mask_bits q 2 (by decide) hq.1 (by omega)
    rw [show wrap64 (wrap64 (2 ^ (2 : Int).toNat) - 1) = 2 ^ 2 - 1 by kernel_rfl, this]
    simp; omega
  · have := mask_bits q 4 (by decide) hq.1 (by omega)
    rw [show wrap64 (wrap64 (2 ^ (4 : Int).toNat) - 1) = 2 ^ 4 - 1 by kernel_rfl, this]
    simp; omega
  · have := mask_bits q 8 (by decide) hq.1 (by omega)
    rw [show wrap64 (wrap64 (2 ^ (8 : Int).toNat) - 1) = 2 ^ 8 - 1 by kernel_rfl, this]
    simp; omega
theorem sampV_ge {W H B n : Int} {s : ByteArray} {x y : Int} (hm : mayI W H B n = true) (hn : n = s.size) : -1 ≤ sampV W H B s x y := by
  unfold sampV
  cases hb : inB W H x y with
  | false => simp
  | true =>
    rw [if_pos rfl]
    obtain ⟨hx, hy⟩ := inB_true hb
    obtain ⟨_, p2, p3, _, _, _, _, p8⟩ := place_in hm hx hy
    subst hn
    have := (bitsV_bd (k := 8 - B - x * B % 8) (byte_in s (y * rowI W B + x * B / 8) (by omega) p8).1 (mayI_bd hm).1).1
    omega
theorem sampV_le {W H B n : Int} {s : ByteArray} {x y : Int} (hm : mayI W H B n = true) (hn : n = s.size) : sampV W H B s x y ≤ 2 ^ B.toNat - 1 := by
  unfold sampV
  cases hb : inB W H x y with
  | false =>
    rcases (mayI_bd hm).1 with rfl | rfl | rfl | rfl <;> simp
  | true =>
    rw [if_pos rfl]
    obtain ⟨hx, hy⟩ := inB_true hb
    obtain ⟨_, p2, p3, _, _, _, _, p8⟩ := place_in hm hx hy
    subst hn
    have := (bitsV_bd (k := 8 - B - x * B % 8) (byte_in s (y * rowI W B + x * B / 8) (by omega) p8).1 (mayI_bd hm).1).2
    omega
theorem pow_bd {B : Int} (hB : B = 1 ∨ B = 2 ∨ B = 4 ∨ B = 8) : 2 ≤ (2 : Int) ^ B.toNat ∧ (2 : Int) ^ B.toNat ≤ 256 := by
  rcases hB with rfl | rfl | rfl | rfl <;> simp
theorem atV_bd (W H B a b c d e f x y : Int) (s : ByteArray) (hm : mayI W H B s.size = true) : -1 ≤ atV W H B s a b c d e f x y ∧ atV W H B s a b c d e f x y ≤ 2 ^ B.toNat - 1 := by
  have hp := pow_bd (mayI_bd hm).1
  unfold atV
  split
  · omega
  · exact ⟨sampV_ge hm rfl, sampV_le hm rfl⟩
/-- a sample's grey -/
def greyV (B v : Int) : Int := v * 255 / (2 ^ B.toNat - 1)
theorem greyV_bd {B v : Int} (hB : B = 1 ∨ B = 2 ∨ B = 4 ∨ B = 8) (h0 : 0 ≤ v) (h1 : v ≤ 2 ^ B.toNat - 1) : 0 ≤ greyV B v ∧ greyV B v ≤ 255 := by
  unfold greyV
  rcases hB with rfl | rfl | rfl | rfl <;> simp at * <;> omega
end Go.Proofs.Ytegpjjkbbdfggaa.im

/-
  Layer 30: sets of places of a row, and runs: plain functions and their laws. (PRUNE)
-/
namespace Go.Proofs.Ytegpjjkbbdfggaa.sp
set_option linter.unusedVariables false
set_option linter.unusedSimpArgs false
open Go.RowKit bs

/-- is a place in one of the runs -/
def inRuns (l : List (Int × Int)) (i : Nat) : Bool := l.any fun r => decide (r.1 ≤ (i : Int)) && decide ((i : Int) < r.2)
/-- the cells of a row -/
def rowC (S : Nat → Bool) : Array Value := Array.ofFn (n := 64) fun i => .bool (S i.val)

theorem rowC_size (S : Nat → Bool) : (rowC S).size = 64 := by simp [rowC]
theorem rowC_get (S : Nat → Bool) (i : Nat) (h : i < 64) : (rowC S)[i]? = some (.bool (S i)) := by simp [rowC, h]
theorem rowC_ext {S T : Nat → Bool} (h : ∀ i, i < 64 → S i = T i) : rowC S = rowC T := by
  apply Array.ext_getElem?
  intro i
  by_cases hi : i < 64
  · rw [rowC_get S i hi, rowC_get T i hi, h i hi]
  · rw [Array.getElem?_eq_none (by rw [rowC_size]; omega), Array.getElem?_eq_none (by rw [rowC_size]; omega)]
theorem rowC_set (S : Nat → Bool) (i : Nat) (h : i < 64) (b : Bool) : (rowC S).setIfInBounds i (.bool b) = rowC (fun j => if j = i then b else S j) := by
  apply Array.ext_getElem?
  intro j
  rw [Array.getElem?_setIfInBounds, rowC_size]
  by_cases hj : j < 64
  · rw [rowC_get (fun j => if j = i then b else S j) j hj]
    by_cases e : i = j
    · subst e; simp [h]
    · simp [e, rowC_get S j hj, show ¬ j = i from fun x => e x.symm]
  · rw [Array.getElem?_eq_none (by rw [rowC_size]; omega : (rowC S).size ≤ j), Array.getElem?_eq_none (by rw [rowC_size]; omega : (rowC fun j => if j = i then b else S j).size ≤ j)]
    split <;> simp; omega
theorem rowC_zero : Array.replicate 64 (Value.bool false) = rowC fun _ => false := by
  apply Array.ext_getElem?
  intro i
  by_cases hi : i < 64
  · rw [rowC_get _ i hi]; simp [hi]
  · rw [Array.getElem?_eq_none (by simp; omega), Array.getElem?_eq_none (by rw [rowC_size]; omega)]
theorem rowC_one (S : Nat → Bool) : (rowC S).all (·.oneCell') = true := by
  rw [Array.all_eq_true]
  intro i hi
  simp [rowC, Value.oneCell']

/-- the slice at A, of length n and capacity c, holds the runs l -/
def Runs (w : World) (A : Option Addr) (n c : Nat) (l : List (Int × Int)) : Prop :=
  l.length = n ∧ n ≤ c ∧ (0 < n → ∃ b o, A = some ⟨b, o, none⟩ ∧ b < w.heap.size ∧ ∀ (j : Nat) (h : j < l.length),
    w.cell? ⟨b, o + j * 2, none⟩ = some (.int .i64 l[j].1) ∧ w.cell? ⟨b, o + j * 2 + 1, none⟩ = some (.int .i64 l[j].2))
theorem Runs.below {w w' : World} {A : Option Addr} {n c : Nat} {l : List (Int × Int)} (h : Runs w A n c l) (hb : Below w.heap.size w w') : Runs w' A n c l := by
  obtain ⟨h1, h2, h3⟩ := h
  refine ⟨h1, h2, fun hn => ?_⟩
  obtain ⟨b, o, e, hlt, hc⟩ := h3 hn
  exact ⟨b, o, e, Nat.lt_of_lt_of_le hlt hb.size, fun j hj => ⟨(hb.cell (p := ⟨b, o + j * 2, none⟩) hlt).trans (hc j hj).1, (hb.cell (p := ⟨b, o + j * 2 + 1, none⟩) hlt).trans (hc j hj).2⟩⟩
theorem Runs.nil_ {w : World} {A : Option Addr} {c : Nat} : Runs w A 0 c [] := ⟨rfl, Nat.zero_le _, fun h => absurd h (by omega)⟩

end Go.Proofs.Ytegpjjkbbdfggaa.sp

/-
  Layer 30: the runs of a set of places, in order: rl; their laws (plain). (PRUNE)
-/
namespace Go.Proofs.Ytegpjjkbbdfggaa.sp
set_option linter.unusedVariables false
set_option linter.unusedSimpArgs false
open Go.RowKit bs

/-- runs that are ended, and where the one begins that is not -/
def close (d : List (Int × Int)) (k : Nat) : Option Nat → List (Int × Int)
  | none => d
  | some f => d ++ [((f : Int), (k : Int))]
def st (S : Nat → Bool) : Nat → List (Int × Int) × Option Nat
  | 0 => ([], none)
  | k + 1 => if S k then ((st S k).1, some ((st S k).2.getD k)) else (close (st S k).1 k (st S k).2, none)
def rl (S : Nat → Bool) (k : Nat) : List (Int × Int) := close (st S k).1 k (st S k).2

theorem rl_zero (S : Nat → Bool) : rl S 0 = [] := rfl
theorem st_ext {S T : Nat → Bool} (k : Nat) (h : ∀ i, i < k → S i = T i) : st S k = st T k := by
  induction k with
  | zero => rfl
  | succ k ih =>
    have e := ih fun i hi => h i (by omega)
    simp only [st, e, h k (by omega)]
theorem rl_ext {S T : Nat → Bool} (k : Nat) (h : ∀ i, i < k → S i = T i) : rl S k = rl T k := by unfold rl; rw [st_ext k h]
theorem st_yes {S : Nat → Bool} {k : Nat} (h : S k = true) : st S (k + 1) = ((st S k).1, some ((st S k).2.getD k)) := by simp [st, h]
theorem st_no {S : Nat → Bool} {k : Nat} (h : S k = false) : st S (k + 1) = (rl S k, none) := by simp [st, h, rl]
theorem rl_no {S : Nat → Bool} {k : Nat} (h : S k = false) : rl S (k + 1) = rl S k := by unfold rl; rw [st_no h]; rfl
theorem rl_open {S : Nat → Bool} {k : Nat} (h : (st S k).2 = none) : rl S k = (st S k).1 := by unfold rl; rw [h]; rfl
theorem st_grow {S : Nat → Bool} {f : Nat} (h : (st S f).2 = none) (m : Nat) (hm : ∀ j, f ≤ j → j < f + (m + 1) → S j = true) : st S (f + (m + 1)) = (rl S f, some f) := by
  induction m with
  | zero => 
    show st S (f + 1) = _
    simp only [st, hm f (Nat.le_refl _) (by omega), if_true, h, rl_open h]
    rfl
  | succ m ih =>
    have e := ih fun j h1 h2 => hm j h1 (by omega)
    have hs := hm (f + (m + 1)) (by omega) (by omega)
    rw [← Nat.add_assoc f (m + 1) 1, st_yes hs, e]
    rfl
theorem rl_grow {S : Nat → Bool} {f m : Nat} (h : (st S f).2 = none) (hfm : f < m) (hm : ∀ j, f ≤ j → j < m → S j = true) : rl S m = rl S f ++ [((f : Int), (m : Int))] := by
  obtain ⟨d, rfl⟩ : ∃ d, m = f + (d + 1) := ⟨m - f - 1, by omega⟩
  show close (st S (f + (d + 1))).1 _ (st S (f + (d + 1))).2 = _
  rw [st_grow h d hm]
  rfl
theorem rl_stay {S : Nat → Bool} {k : Nat} (h : ∀ j, k ≤ j → S j = false) (m : Nat) : rl S (k + m) = rl S k := by
  induction m with
  | zero => rfl
  | succ m ih => rw [← Nat.add_assoc, rl_no (h (k + m) (by omega)), ih]

theorem inRuns_append (l m : List (Int × Int)) (j : Nat) : inRuns (l ++ m) j = (inRuns l j || inRuns m j) := by simp [inRuns, List.any_append]
theorem inRuns_one (x y : Int) (j : Nat) : inRuns [(x, y)] j = (decide (x ≤ (j : Int)) && decide ((j : Int) < y)) := by simp [inRuns]

/-- where the open run begins, below k; what the ended ones hold -/
theorem st_inv (S : Nat → Bool) (k : Nat) : (∀ f, (st S k).2 = some f → f < k ∧ ∀ j, f ≤ j → j < k → S j = true) ∧ ∀ j, inRuns (rl S k) j = (S j && decide (j < k)) := by
  induction k with
  | zero => exact ⟨fun f h => (by simp [st] at h), fun j => (by simp [rl, st, close, inRuns])⟩
  | succ k ih =>
    obtain ⟨ih1, ih2⟩ := ih
    cases hS : S k with
    | false =>
      refine ⟨fun f h => (by rw [st_no hS] at h; cases h), fun j => ?_⟩
      rw [rl_no hS, ih2 j]
      by_cases hj : j = k
      · subst hj; simp [hS]
      · have : (j < k + 1) ↔ j < k := by omega
        simp [this]
    | true =>
      cases ho : (st S k).2 with
      | none =>
        have e := rl_grow (m := k + 1) ho (by omega) (fun j h1 h2 => by obtain rfl : j = k := by omega
                                                                        exact hS)
        refine ⟨fun f h => ?_, fun j => ?_⟩
        · simp only [st, hS, if_true, ho, Option.getD_none, Option.some.injEq] at h
          subst h
          exact ⟨by omega, fun j h1 h2 => by obtain rfl : j = k := by omega
                                             exact hS⟩
        · rw [e, inRuns_append, ih2 j, inRuns_one]
          by_cases hj : j = k
          · subst hj; simp [hS]; omega
          · by_cases h2 : j < k
            · simp [h2, show j < k + 1 by omega]
              intro h3; omega
            · simp [h2, show ¬ j < k + 1 by omega]; omega
      | some f =>
        obtain ⟨h1, h2⟩ := ih1 f ho
        have e : st S (k + 1) = ((st S k).1, some f) := by simp [st, hS, ho]
        refine ⟨fun g hg => ?_, fun j => ?_⟩
        · rw [e] at hg
          cases hg
          refine ⟨by omega, fun j a b => ?_⟩
          by_cases hj : j = k
          · subst hj; exact hS
          · exact h2 j a (by omega)
        · have i2 := ih2 j
          unfold rl at i2 ⊢
          rw [e]
          rw [ho] at i2
          simp only [close, inRuns_append, inRuns_one] at i2 ⊢
          by_cases hj : j = k
          · subst hj
            simp [hS]
            right; omega
          · by_cases hjk : j < k
            · have : decide ((j : Int) < ((k + 1 : Nat) : Int)) = decide ((j : Int) < (k : Int)) := by
                simp [show j < k + 1 by omega, hjk]; omega
              rw [this, i2]; simp [hjk, show j < k + 1 by omega]
            · have a1 : decide ((j : Int) < ((k + 1 : Nat) : Int)) = decide ((j : Int) < (k : Int)) := by simp; omega
              rw [a1, i2]; simp [hjk, show ¬ j < k + 1 by omega]
theorem inRuns_rl (S : Nat → Bool) (k j : Nat) : inRuns (rl S k) j = (S j && decide (j < k)) := (st_inv S k).2 j
theorem rl_again (S : Nat → Bool) (k : Nat) : rl (inRuns (rl S k)) k = rl S k := rl_ext k fun i hi => by rw [inRuns_rl]; simp [hi]

/-- in order, behind last, up to w -/
def mayFrom (w : Int) : Int → List (Int × Int) → Bool
  | _, [] => true
  | last, (x, y) :: r => decide (last < x ∧ x < y ∧ y ≤ w) && mayFrom w y r
def lastTo (last : Int) : List (Int × Int) → Int
  | [] => last
  | (_, y) :: r => lastTo y r
theorem mayFrom_append (w last : Int) (l : List (Int × Int)) (x y : Int) : mayFrom w last (l ++ [(x, y)]) = (mayFrom w last l && decide (lastTo last l < x ∧ x < y ∧ y ≤ w)) := by
  induction l generalizing last with
  | nil => simp only [List.nil_append, mayFrom, lastTo, Bool.and_true, Bool.true_and]; rfl
  | cons a r ih =>
    obtain ⟨a, b⟩ := a
    simp only [List.cons_append, mayFrom, lastTo, ih, Bool.and_assoc]; rfl
theorem lastTo_append (last : Int) (l : List (Int × Int)) (x y : Int) : lastTo last (l ++ [(x, y)]) = y := by
  induction l generalizing last with
  | nil => rfl
  | cons a r ih => exact ih _
/-- the ended runs are in order and end ahead of the open one's begin -/
theorem may_inv (S : Nat → Bool) (w : Int) (k : Nat) (hk : (k : Int) ≤ w) : mayFrom w (-1) (st S k).1 = true ∧ mayFrom w (-1) (rl S k) = true ∧ lastTo (-1) (rl S k) ≤ k ∧
    (∀ f, (st S k).2 = some f → lastTo (-1) (st S k).1 < (f : Int)) ∧ ((st S k).2 = none → 0 < k → S (k - 1) = false ∧ lastTo (-1) (rl S k) < k) ∧ (k = 0 → lastTo (-1) (rl S k) = -1) := by
  induction k with
  | zero => exact ⟨rfl, rfl, (by show (-1 : Int) ≤ 0; omega), fun f h => (by simp [st] at h), fun _ h => absurd h (by omega), fun _ => rfl⟩
  | succ k ih =>
    obtain ⟨i1, i2, i3, i4, i5, i6⟩ := ih (by omega)
    cases hS : S k with
    | false =>
      rw [rl_no hS, st_no hS]
      exact ⟨i2, i2, by omega, fun f h => by (cases h), fun _ _ => ⟨by simpa using hS, by omega⟩, fun h => absurd h (by omega)⟩
    | true =>
      cases ho : (st S k).2 with
      | none =>
        have e : st S (k + 1) = ((st S k).1, some k) := by simp [st, hS, ho]
        have hl : lastTo (-1) (st S k).1 < (k : Int) := by
          rw [← rl_open ho]
          by_cases h0 : k = 0
          · rw [i6 h0]; omega
          · exact (i5 ho (by omega)).2
        unfold rl
        rw [e]
        refine ⟨i1, ?_, ?_, fun f h => (by cases h; exact hl), fun h => (by cases h), fun h => absurd h (by omega)⟩
        · show mayFrom w (-1) ((st S k).1 ++ [((k : Int), ((k + 1 : Nat) : Int))]) = true
          rw [mayFrom_append, i1]
          simp only [Bool.true_and, decide_eq_true_eq]
          omega
        · show lastTo (-1) ((st S k).1 ++ [((k : Int), ((k + 1 : Nat) : Int))]) ≤ _
          rw [lastTo_append]; omega
      | some f =>
        have hf := ((st_inv S k).1 f ho).1
        have e : st S (k + 1) = ((st S k).1, some f) := by simp [st, hS, ho]
        have hl := i4 f ho
        unfold rl
        rw [e]
        refine ⟨i1, ?_, ?_, fun g h => (by cases h; exact hl), fun h => (by cases h), fun h => absurd h (by omega)⟩
        · show mayFrom w (-1) ((st S k).1 ++ [((f : Int), ((k + 1 : Nat) : Int))]) = true
          rw [mayFrom_append, i1]
          simp only [Bool.true_and, decide_eq_true_eq]
          omega
        · show lastTo (-1) ((st S k).1 ++ [((f : Int), ((k + 1 : Nat) : Int))]) ≤ _
          rw [lastTo_append]; omega
theorem may_rl (S : Nat → Bool) (w : Int) (k : Nat) (hk : (k : Int) ≤ w) : mayFrom w (-1) (rl S k) = true := (may_inv S w k hk).2.1
theorem rl_len (S : Nat → Bool) (k : Nat) : (rl S k).length ≤ k ∧ (st S k).1.length + (if (st S k).2 = none then 0 else 1) ≤ k := by
  induction k with
  | zero => exact ⟨by simp [rl, st, close], by simp [st]⟩
  | succ k ih =>
    obtain ⟨i1, i2⟩ := ih
    cases hS : S k with
    | false => rw [rl_no hS, st_no hS]; exact ⟨by omega, by simp; omega⟩
    | true =>
      have e : st S (k + 1) = ((st S k).1, some ((st S k).2.getD k)) := by simp [st, hS]
      unfold rl
      rw [e]
      simp only [close, List.length_append, List.length_cons, List.length_nil]
      split at i2 <;> exact ⟨by omega, by simp; omega⟩

end Go.Proofs.Ytegpjjkbbdfggaa.sp

/-
  Layer 30: the contract of span's of. (PRUNE)
-/
namespace Go.Proofs.Ytegpjjkbbdfggaa.sp
set_option linter.unusedVariables false
set_option linter.unusedSimpArgs false
open Go.RowKit bs

theorem inRuns_take (l : List (Int × Int)) (k : Nat) (h : k < l.length) (j : Nat) : inRuns (l.take (k + 1)) j = (inRuns (l.take k) j || (decide (l[k].1 ≤ (j : Int)) && decide ((j : Int) < l[k].2))) := by
  unfold inRuns
  rw [List.take_succ_eq_append_getElem h, List.any_append]
  simp
theorem inRuns_all (l : List (Int × Int)) (k : Nat) (h : l.length ≤ k) : inRuns (l.take k) = inRuns l := by rw [List.take_of_length_le h]

def OfRel (T : TypeId) (W : World) (r p : Nat) (S : Nat → Bool) (wr : World) : Prop :=
  Blk wr r T (rowC fun _ => false) ∧ Blk wr p T (rowC S) ∧ W.heap.size ≤ r ∧ r < p ∧ Below W.heap.size W wr
theorem OfRel.start (T : TypeId) (w : World) : OfRel T w w.heap.size (w.heap.size + 1) (fun _ => false) ((w.alloc (.cells (Array.replicate 64 (.bool false)) T)).alloc (.cells (Array.replicate 64 (.bool false)) T)) := by
  have b0 := Blk.new w T (Array.replicate 64 (.bool false))
  have b1 := Blk.new (w.alloc (.cells (Array.replicate 64 (.bool false)) T)) T (Array.replicate 64 (.bool false))
  have s1 : ∀ (u : World) (o : Obj), (u.alloc o).heap.size = u.heap.size + 1 := fun u o => by simp
  simp only [s1] at b1
  rw [rowC_zero] at b0 b1 ⊢
  exact ⟨b0.alloc _, b1, Nat.le_refl _, by omega, by (repeat' (first | exact Below.refl _ _ | exact Below.refl _ _ | refine balloc ?_ _ | refine Below.drew ?_ | refine below_drewN ?_ _ | refine bset ?_ (by first | omega | (simp <;> omega)) _))⟩
theorem OfRel.ext {T : TypeId} {W wr : World} {r p : Nat} {S S2 : Nat → Bool} (h : OfRel T W r p S wr) (e : ∀ i, i < 64 → S i = S2 i) : OfRel T W r p S2 wr := by
  obtain ⟨h1, h2, h3⟩ := h
  rw [rowC_ext e] at h2
  exact ⟨h1, h2, h3⟩
theorem OfRel.alloc {T : TypeId} {W wr : World} {r p : Nat} {S : Nat → Bool} (h : OfRel T W r p S wr) (o : Obj) : OfRel T W r p S (wr.alloc o) :=
  ⟨h.1.alloc o, h.2.1.alloc o, h.2.2.1, h.2.2.2.1, balloc h.2.2.2.2 o⟩
theorem OfRel.set {T : TypeId} {W wr : World} {r p i : Nat} {S : Nat → Bool} (h : OfRel T W r p S wr) (hi : i < 64) : OfRel T W r p (fun j => if j = i then true else S j) (wr.setCell ⟨p, i, none⟩ (.bool true)) := by
  obtain ⟨h1, h2, h3, h4, h5⟩ := h
  refine ⟨h1.far (by show r ≠ p; omega) _, ?_, h3, h4, bset h5 (by show W.heap.size ≤ p; omega) _⟩
  have := h2.set_ i (.bool true)
  rwa [rowC_set S i hi] at this
theorem OfRel.cell {T : TypeId} {W wr : World} {r p i : Nat} {S : Nat → Bool} (h : OfRel T W r p S wr) (hi : i < 64) : wr.cell? ⟨p, i, none⟩ = some (.bool (S i)) ∧ wr.frozen? ⟨p, i, none⟩ = false :=
  ⟨by rw [h.2.1.cell, rowC_get _ _ hi], h.2.1.frozen i⟩

/-- in the middle of a run: the places from a on, below i, are laid -/
def OfIn (T : TypeId) (W : World) (r p q : Nat) (S : Nat → Bool) (x y hi : Int) (a : Nat) (iv : Value) (wr : World) : Prop :=
  ∃ i : Nat, a ≤ i ∧ ((i : Int) ≤ hi ∨ i = a) ∧ iv = .int .i64 i ∧ OfRel T W r p (fun j => S j || (decide (a ≤ j) && decide (j < i))) wr ∧ Blk wr q 109 #[.int .i64 x, .int .i64 y] ∧ p < q
theorem OfIn.step {T : TypeId} {W wr : World} {r p q a i : Nat} {S : Nat → Bool} {x y hi : Int} (ha : a ≤ i) (hi64 : hi ≤ 64) (hlt : (i : Int) < hi)
    (h : OfRel T W r p (fun j => S j || (decide (a ≤ j) && decide (j < i))) wr) (hq : Blk wr q 109 #[.int .i64 x, .int .i64 y]) (hpq : p < q) :
    OfIn T W r p q S x y hi a (.int .i64 ((i : Int) + 1)) (wr.setCell ⟨p, i, none⟩ (.bool true)) := by
  refine ⟨i + 1, by omega, by omega, by go_num, (h.set (by omega)).ext fun j hj => ?_, hq.far (by show q ≠ p; omega) _, hpq⟩
  by_cases e : j = i
  · subst e; simp [ha]
  · rw [if_neg e]
    congr 2
    by_cases h2 : j < i
    · simp [h2]; omega
    · simp [h2]; omega

set_option maxRecDepth 100000 in
set_option maxHeartbeats 800000 in
theorem of_any (A : Option Addr) (n c : Nat) (l : List (Int × Int)) (w : World) (hr : Runs w A n c l) (hn : n ≤ 9223372036854775807) :
    Calls Try.prog 123 #[.slice A n c] w fun e w' => e = .returned (.agg (rowC (inRuns l))) ∧ Below w.heap.size w w' := by
  go_enter Try.func123, Try.ntmps123
  go_wp2_with fail
  go_loopw [9] (fun kv wr => ∃ k : Nat, k ≤ n ∧ kv = .int .i64 k ∧ OfRel 149 w w.heap.size (w.heap.size + 1) (inRuns (l.take k)) wr) (fun kv _ => n - (intOf kv).toNat)
  case atStart => exact ⟨0, by omega, rfl, OfRel.start _ w⟩
  case round =>
    obtain ⟨k, hk, rfl, hrel⟩ := hrel
    by_cases hlt : k < n
    · have dk : decide ((k : Int) < (n : Int)) = true := by simp; omega
      have hr' := hr.below hrel.2.2.2.2
      obtain ⟨hl, hnc, hcell⟩ := hr'
      obtain ⟨b, o, rfl, hb, hcell⟩ := hcell (by omega)
      have hkl : k < l.length := by omega
      obtain ⟨c1, c2⟩ := hcell k hkl
      have ht := inRuns_take l k hkl
      generalize l[k].1 = x at *
      generalize l[k].2 = y at *
      obtain ⟨hi, hhi, hi1, hi2, hi3⟩ : ∃ hi, (if 64 < y then 64 else y) = hi ∧ hi ≤ 64 ∧ hi ≤ y ∧ (hi = 64 ∨ hi = y) := ⟨_, rfl, by split <;> omega, by split <;> omega, by split <;> omega⟩
      obtain ⟨lo, hlo, lo1, lo2, lo3⟩ : ∃ lo, (if 0 < x then x else 0) = lo ∧ 0 ≤ lo ∧ x ≤ lo ∧ (lo = 0 ∨ lo = x) := ⟨_, rfl, by split <;> omega, by split <;> omega, by split <;> omega⟩
      obtain ⟨a, rfl⟩ := Int.eq_ofNat_of_zero_le lo1
      have HT := Lib.hid ht
      clear ht hcell hl
      go_wp2_with fail
      have hq := Blk.new wr 109 #[.int .i64 x, .int .i64 y]
      have hlt1 : w.heap.size + 1 < wr.heap.size := hrel.2.1.lt
      go_loopw [6] (fun iv wi => OfIn 149 w w.heap.size (w.heap.size + 1) wr.heap.size (inRuns (l.take k)) x y hi a iv wi) (fun iv _ => 64 - (intOf iv).toNat)
      case atStart => exact ⟨a, by omega, .inr rfl, rfl, (hrel.alloc _).ext (fun j _ => by by_cases h : a ≤ j <;> simp [h]; omega), hq, hlt1⟩
      case round =>
        obtain ⟨i, hai, hih, rfl, hof, hbq, hpq⟩ := hrel
        have q1 := hbq.cell 1
        simp only [List.getElem?_toArray, List.getElem?_cons_succ, List.getElem?_cons_zero] at q1
        by_cases hin : (i : Int) < hi
        · have hnext := OfIn.step hai hi1 hin hof hbq hpq
          obtain ⟨f1, f2⟩ := hof.cell (i := i) (by omega)
          go_wp2_with fail
          go_roundw
          case rel => exact hnext
          case measure => simp [intOf]; omega
        · go_wp2_with fail
          go_roundw
          case rel =>
            refine ⟨k + 1, by omega, by go_num, hof.ext fun j hj => ?_⟩
            rw [HT.out]
            congr 1
            by_cases h1 : x ≤ (j : Int)
            · by_cases h2 : (j : Int) < y
              · simp [h1, h2]; omega
              · simp [h1, h2]; omega
            · simp [h1]; omega
          case measure => simp [intOf]; omega
    · obtain rfl : k = n := by omega
      have hin : inRuns (l.take k) = inRuns l := inRuns_all l k (by have := hr.1; omega)
      rw [hin] at hrel
      obtain ⟨h1, h2, h3, h4, h5⟩ := hrel
      go_wp2_with (first
        | (refine wpList_load_row rfl 149 (.tmp 3) rfl _ rfl _ _ _ _ h2 Try.underlying149 rfl (by rw [rowC_size]; kernel_rfl) ?_)
        | (refine wpList_store_row rfl 149 (.tmp 2) (.tmp 26) rfl _ (rowC (inRuns l)) rfl rfl _ _ h1 (by rw [rowC_size]; kernel_rfl) (by rw [rowC_size, rowC_size]) (rowC_one _) ?_))
      exact ret_struct1 rfl rfl (h1.row _) Try.underlying149 rfl (by rw [rowC_size]; kernel_rfl) rfl ⟨rfl, brow h5 h3 _⟩
end Go.Proofs.Ytegpjjkbbdfggaa.sp

/-
  Layer 30: the contract of (places).runs, and of the smaller functions. (PRUNE)
-/
namespace Go.Proofs.Ytegpjjkbbdfggaa.sp
set_option linter.unusedVariables false
set_option linter.unusedSimpArgs false
open Go.RowKit bs

/-- runs as cells -/
def flat (l : List (Int × Int)) : List Value := l.flatMap fun r => [.int .i64 r.1, .int .i64 r.2]
theorem flat_len (l : List (Int × Int)) : (flat l).length = l.length * 2 := by
  induction l with
  | nil => rfl
  | cons a r ih => simp [flat] at ih ⊢; omega
theorem flat_append (l m : List (Int × Int)) : flat (l ++ m) = flat l ++ flat m := by simp [flat]
theorem flat_get (l : List (Int × Int)) (j : Nat) (h : j < l.length) : (flat l)[j * 2]? = some (.int .i64 l[j].1) ∧ (flat l)[j * 2 + 1]? = some (.int .i64 l[j].2) := by
  induction l generalizing j with
  | nil => simp at h
  | cons a r ih =>
    have e : flat (a :: r) = [.int .i64 a.1, .int .i64 a.2] ++ flat r := by simp [flat]
    rw [e]
    cases j with
    | zero => simp
    | succ j =>
      have h' : j < r.length := by simpa using h
      obtain ⟨i1, i2⟩ := ih j h'
      constructor
      · rw [List.getElem?_append_right (by simp; omega)]
        have : (j + 1) * 2 - [Value.int .i64 a.1, Value.int .i64 a.2].length = j * 2 := by simp; omega
        rw [this, i1]; rfl
      · rw [List.getElem?_append_right (by simp; omega)]
        have : (j + 1) * 2 + 1 - [Value.int .i64 a.1, Value.int .i64 a.2].length = j * 2 + 1 := by simp; omega
        rw [this, i2]; rfl
/-- a slice of the call's own that holds runs -/
def OwnRuns (w : World) (base : Nat) (v : Value) (l : List (Int × Int)) : Prop := w.ownsRow base 109 2 v l.length (flat l)
theorem OwnRuns.runs {w : World} {base : Nat} {v : Value} {l : List (Int × Int)} (h : OwnRuns w base v l) : ∃ A c, v = .slice A l.length c ∧ Runs w A l.length c l := by
  have hh := h
  rcases h.2 with ⟨rfl, h0⟩ | ⟨g, cap, cur, rfl, hb, hg, hn, hm, hs, ht⟩
  · have : l = [] := List.eq_nil_of_length_eq_zero h0
    subst this
    exact ⟨none, 0, rfl, Runs.nil_⟩
  · refine ⟨_, _, rfl, rfl, hn, fun _ => ⟨g, 0, rfl, (Array.getElem?_eq_some_iff.1 hg).1, fun j hj => ?_⟩⟩
    obtain ⟨e1, e2⟩ := flat_get l j hj
    simp only [Nat.zero_add]
    have hlt : j * 2 + 1 < l.length * 2 := by omega
    rw [World.ownsRow.cellAt (g := g) (cap := cap) hh (j * 2) (by omega), World.ownsRow.cellAt (g := g) (cap := cap) hh (j * 2 + 1) (by omega)]
    exact ⟨e1, e2⟩

set_option maxRecDepth 100000 in
theorem cut_any (v : Int) (w : World) : Calls Try.prog 119 #[.int .i64 v] w fun e w' => e = .returned (.int .i64 (max 0 (min v 64))) ∧ w = w' := by
  have e1 : (if 64 < v then 64 else v) = min v 64 := by omega
  have e2 : (if 0 < min v 64 then min v 64 else 0) = max 0 (min v 64) := by omega
  go_enter Try.func119, Try.ntmps119
  go_wp2_with fail
  go_ret
  exact ⟨ret_int (by first | rfl | omega), rfl⟩

def RunsRel (W : World) (S : Nat → Bool) (i : Nat) (v : Value) (wr : World) : Prop :=
  OwnRuns wr (W.heap.size + 1) v (rl S (min i 64)) ∧ Blk wr W.heap.size 149 (rowC S) ∧ Below W.heap.size W wr ∧ (i ≤ 64 → (st S i).2 = none)
theorem RunsRel.own {W wr : World} {S : Nat → Bool} {i : Nat} {v : Value} (h : RunsRel W S i v wr) (o : Obj) : (wr.alloc o).ownsRow (W.heap.size + 1) 109 2 v (rl S (min i 64)).length (flat (rl S (min i 64))) := World.ownsRow.alloc h.1 o
theorem RunsRel.small {W wr : World} {S : Nat → Bool} {i : Nat} {v : Value} (h : RunsRel W S i v wr) : (rl S (min i 64)).length ≤ 64 ∧ W.heap.size + 1 ≤ wr.heap.size :=
  ⟨by have := (rl_len S (min i 64)).1; omega, h.2.1.lt⟩
theorem two_new (w : World) (x y : Value) (t : TypeId) : ∀ (j : Nat) (u : Value), [x, y][j]? = some u → (w.alloc (.cells #[x, y] t)).cell? ((⟨w.heap.size, 0, none⟩ : Addr).add j) = some u := by
  intro j u hu
  have hadd : (⟨w.heap.size, 0, none⟩ : Addr).add j = ⟨w.heap.size, j, none⟩ := by unfold Addr.add; split <;> simp_all
  rw [hadd, (Blk.new w t #[x, y]).cell]
  simpa using hu
theorem RunsRel.skip {W wr : World} {S : Nat → Bool} {i : Nat} {v : Value} (h : RunsRel W S i v wr) (hi : i < 64) (hS : S i = false) : RunsRel W S (i + 1) v wr := by
  obtain ⟨h1, h2, h3, h4⟩ := h
  refine ⟨?_, h2, h3, fun _ => by rw [st_no hS]⟩
  rw [show min (i + 1) 64 = i + 1 by omega, rl_no hS]
  rwa [show min i 64 = i by omega] at h1
theorem RunsRel.put {W wr w1 : World} {S : Nat → Bool} {i m : Nat} {v v1 : Value} (h : RunsRel W S i v wr) (him : i < m) (hm : m ≤ 64) (hall : ∀ j, i ≤ j → j < m → S j = true) (hend : m < 64 → S m = false)
    (hown : w1.ownsRow (W.heap.size + 1) 109 2 v1 ((rl S (min i 64)).length + 1) (flat (rl S (min i 64)) ++ [.int .i64 i, .int .i64 m]))
    {o : Obj} (hg : (wr.alloc o).grownBy w1 v.ownBlock) : RunsRel W S (m + 1) v1 w1 := by
  obtain ⟨h1, h2, h3, h4⟩ := h
  have e : rl S (min (m + 1) 64) = rl S (min i 64) ++ [((i : Int), (m : Int))] := by
    rw [show min i 64 = i by omega, ← rl_grow (h4 (by omega)) him hall]
    by_cases hm2 : m < 64
    · rw [show min (m + 1) 64 = m + 1 by omega, rl_no (hend hm2)]
    · rw [show min (m + 1) 64 = m by omega]
  have hne : ∀ k, v.ownBlock = some k → W.heap.size + 1 ≤ k := fun k hk => (h1.lt k hk).1
  refine ⟨?_, ?_, ?_, fun hle => by rw [st_no (hend (by omega))]⟩
  · unfold OwnRuns
    rw [e]
    simpa [flat] using hown
  · exact ((h2.alloc o).grown hg (fun e => by have := hne _ e.symm; omega))
  · exact (h3.alloc h3.size o).grown hg (by have := h3.size; simp; omega) (fun k hk => by have := hne k hk; omega)

set_option maxRecDepth 100000 in
set_option maxHeartbeats 800000 in
theorem runs_any (S : Nat → Bool) (w : World) :
    Calls Try.prog 130 #[.agg (rowC S)] w fun e w' => ∃ A c, e = .returned (.slice A (rl S 64).length c) ∧ Runs w' A (rl S 64).length c (rl S 64) ∧ Below w.heap.size w w' := by
  obtain ⟨i0, hi, hz0, hz1, hz2⟩ := info_parts (show (Try.prog.info? 109).map (fun i => (i.zero, i.size, i.bytes)) = some (some (.agg #[.int .i64 0, .int .i64 0]), 2, 16) by kernel_rfl)
  go_enter Try.func130, Try.ntmps130
  go_wp2_with fail
  go_loopw [3, 4] (fun ov iv wr => ∃ i : Nat, i ≤ 65 ∧ iv = .int .i64 i ∧ RunsRel w S i ov wr) (fun _ iv _ => 65 - (intOf iv).toNat)
  case atStart => exact ⟨0, by omega, rfl, ⟨by simp [rl_zero, flat], .inl ⟨rfl, rfl⟩⟩, Blk.new w _ _, balloc (Below.refl _ _) _, fun _ => rfl⟩
  case round =>
    obtain ⟨i, hi65, rfl, hR⟩ := hrel
    by_cases hlt : i < 64
    · have hcell : wr.cell? ⟨w.heap.size, i, none⟩ = some (.bool (S i)) := by rw [hR.2.1.cell, rowC_get S i hlt]
      obtain ⟨hsm1, hsm2⟩ := hR.small
      cases hS : S i with
      | false =>
        rw [hS] at hcell
        have hnext := hR.skip hlt hS
        go_wp2_with fail
        go_roundw
        case rel => exact ⟨i + 1, by omega, by go_num, hnext⟩
        case measure => simp [intOf]; omega
      | true =>
        rw [hS] at hcell
        have HS := Lib.hid hS
        clear hS
        go_wp2_with fail
        go_loop [4] (fun mv => ∃ m : Nat, i ≤ m ∧ m ≤ 64 ∧ mv = .int .i64 m ∧ Hid (∀ j, i ≤ j → j < m → S j = true)) (fun mv => 64 - (intOf mv).toNat)
        case atStart => exact ⟨i, by omega, by omega, rfl, fun j h1 h2 => absurd h2 (by omega)⟩
        case round =>
          obtain ⟨m, him, hm64, rfl, hall⟩ := hrel
          by_cases hml : m < 64
          · have hcm : wr.cell? ⟨w.heap.size, m, none⟩ = some (.bool (S m)) := by rw [hR.2.1.cell, rowC_get S m hml]
            cases hSm : S m with
            | true =>
              rw [hSm] at hcm
              have HSm := Lib.hid hSm
              clear hSm
              go_wp2_with fail
              go_round
              case rel => exact ⟨m + 1, by omega, by omega, by go_num, fun j h1 h2 => by
                by_cases e : j = m
                · subst e; exact HSm.out
                · exact hall.out j h1 (by omega)⟩
              case measure => simp [intOf]; omega
            | false =>
              rw [hSm] at hcm
              have HSm := Lib.hid hSm
              clear hSm
              have him2 : i < m := by
                rcases Nat.lt_or_ge i m with h | h
                · exact h
                · exact absurd HS.out (by first | (rw [show i = m by omega, HSm.out]; simp) | omega)
              have hend : m < 64 → S m = false := fun h => by first | exact HSm.out | omega
              have HEND := Lib.hid hend
              clear hend
              go_wp2_with (at_builtin; refine wpList_append_own _ rfl (.tmp 24) (.tmp 28) _ rfl (w.heap.size + 1) 109 i0 _ 2 16 Try.underlying107 hi hz0 hz1 hz2 rfl (by omega) u3 _ _ rfl (hR.own _) ⟨wr.heap.size, 0, none⟩ 1 1 [.int .i64 i, .int .i64 m] rfl rfl (two_new _ _ _ _) (by simp [Value.oneCell']) (by unfold maxLen; omega) (by omega) (by simp; omega) ?_; intro v1 w1 hown1 hg1 _)
              go_roundw
              case rel => exact ⟨m + 1, by omega, by go_num, hR.put him2 hm64 hall.out HEND.out hown1 hg1⟩
              case measure => simp [intOf]; omega
          · have HSm : Hid True := trivial
            have him2 : i < m := by
              rcases Nat.lt_or_ge i m with h | h
              · exact h
              · exact absurd HS.out (by first | (rw [show i = m by omega, HSm.out]; simp) | omega)
            have hend : m < 64 → S m = false := fun h => by first | exact HSm.out | omega
            have HEND := Lib.hid hend
            clear hend
            go_wp2_with (at_builtin; refine wpList_append_own _ rfl (.tmp 24) (.tmp 28) _ rfl (w.heap.size + 1) 109 i0 _ 2 16 Try.underlying107 hi hz0 hz1 hz2 rfl (by omega) u3 _ _ rfl (hR.own _) ⟨wr.heap.size, 0, none⟩ 1 1 [.int .i64 i, .int .i64 m] rfl rfl (two_new _ _ _ _) (by simp [Value.oneCell']) (by unfold maxLen; omega) (by omega) (by simp; omega) ?_; intro v1 w1 hown1 hg1 _)
            go_roundw
            case rel => exact ⟨m + 1, by omega, by go_num, hR.put him2 hm64 hall.out HEND.out hown1 hg1⟩
            case measure => simp [intOf]; omega
    · go_wp2_with fail
      go_ret
      obtain ⟨h1, h2, h3, h4⟩ := hR
      rw [show min i 64 = 64 by omega] at h1
      obtain ⟨A, c, rfl, hr⟩ := h1.runs
      exact ⟨A, c, rfl, hr, h3⟩
end Go.Proofs.Ytegpjjkbbdfggaa.sp
