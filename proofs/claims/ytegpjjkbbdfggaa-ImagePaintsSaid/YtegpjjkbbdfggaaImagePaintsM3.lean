/-
  Lemmas for ImagePaints: LawIPaints, OpenRuns, OpenPage, OpenRegion.
-/
import Derived.Deep.Slices
import Derived.Deep.Fields
import Derived.Lib.SmallJoins
import Derived.Test.YtegpjjkbbdfggaaImagePaintsM2

/-
  ImagePaints: Region and Paint of any image, matrix, page and region return what the reference returns.
-/
namespace Go.Proofs.Ytegpjjkbbdfggaa.im
set_option linter.unusedVariables false
set_option linter.unusedSimpArgs false
open Go.RowKit bs sp rg
set_option maxRecDepth 100000 in
set_option maxHeartbeats 3200000 in
theorem few_any (pw ph rw_ rh : Int) (n c m d : Nat) (A D : Option Addr) (L : Nat → List (Int × Int)) (w : World) (hr : rg.Rows w D m d L) :
    Calls Try.prog 37 #[.agg #[.int .i64 pw, .int .i64 ph, .slice A n c], .agg #[.int .i64 rw_, .int .i64 rh, .slice D m d]] w fun e w' => ∃ b, e = .returned (.bool b) ∧ Below w.heap.size w w' := by
  have HR := Lib.hid hr
  have HK0 := Lib.hid (show Blk ((w.alloc (.cells #[.int .i64 pw, .int .i64 ph, .slice A n c] 46)).alloc (.cells #[.int .i64 rw_, .int .i64 rh, .slice D m d] 51)) (w.heap.size + 1) 51 #[.int .i64 rw_, .int .i64 rh, .slice D m d] by
    have := Blk.new (w.alloc (.cells #[.int .i64 pw, .int .i64 ph, .slice A n c] 46)) 51 #[.int .i64 rw_, .int .i64 rh, .slice D m d]
    simpa using this)
  have HB0 := Lib.hid (show Below w.heap.size w ((w.alloc (.cells #[.int .i64 pw, .int .i64 ph, .slice A n c] 46)).alloc (.cells #[.int .i64 rw_, .int .i64 rh, .slice D m d] 51)) by (repeat' (first | exact Below.refl _ _ | exact Below.refl _ _ | refine balloc ?_ _ | refine Below.drew ?_ | refine below_drewN ?_ _ | refine bset ?_ (by first | omega | (simp <;> omega)) _)))
  clear hr
  by_cases h1 : 15000 < n
  · have z1 : decide ((n : Int) > 15000) = true := by simp; omega
    have z1' : decide (15000 < (n : Int)) = true := by simp; omega
    clear HK0 HB0
    go_enter Try.func37, Try.ntmps37
    go_wp2_with fail
    go_ret
    exact ⟨_, rfl, by (repeat' (first | exact Below.refl _ _ | exact Below.refl _ _ | refine balloc ?_ _ | refine Below.drew ?_ | refine below_drewN ?_ _ | refine bset ?_ (by first | omega | (simp <;> omega)) _))⟩
  · have z1 : decide ((n : Int) > 15000) = false := by simp; omega
    have z1' : decide (15000 < (n : Int)) = false := by simp; omega
    by_cases h2 : 80 < m
    · have z2 : decide ((m : Int) > 80) = true := by simp; omega
      have z2' : decide (80 < (m : Int)) = true := by simp; omega
      clear HK0 HB0
      go_enter Try.func37, Try.ntmps37
      go_wp2_with fail
      go_ret
      exact ⟨_, rfl, by (repeat' (first | exact Below.refl _ _ | exact Below.refl _ _ | refine balloc ?_ _ | refine Below.drew ?_ | refine below_drewN ?_ _ | refine bset ?_ (by first | omega | (simp <;> omega)) _))⟩
    · have z2 : decide ((m : Int) > 80) = false := by simp; omega
      have z2' : decide (80 < (m : Int)) = false := by simp; omega
      go_enter Try.func37, Try.ntmps37
      go_wp2_with fail
      go_loopw [5] (fun kv wr => ∃ k : Nat, k ≤ m ∧ kv = .int .i64 (k : Int) ∧ Blk wr (w.heap.size + 1) 51 #[.int .i64 rw_, .int .i64 rh, .slice D m d] ∧ Below w.heap.size w wr) (fun kv _ => m - (intOf kv).toNat)
      case atStart => exact ⟨0, by omega, rfl, HK0.out, HB0.out⟩
      case round =>
        clear HK0 HB0
        obtain ⟨k, hk, rfl, K, hbw⟩ := hrel
        have a2 := K.cell 2
        have lK := K.lt
        simp only [List.getElem?_toArray, List.getElem?_cons_succ, List.getElem?_cons_zero] at a2
        by_cases hkm : k < m
        · have d1 : decide ((k : Int) < (m : Int)) = true := by simp; omega
          have hki : (k : Int) < (m : Int) := by omega
          obtain ⟨hcc, hat⟩ := HR.out.below hbw
          obtain ⟨b, o, rfl, hb, hat⟩ := hat (by omega)
          obtain ⟨hlen, Aj, cj, q1, q2⟩ := hat k hkm
          obtain ⟨ln, hln⟩ : ∃ ln, (L k).length = ln := ⟨_, rfl⟩
          rw [hln] at q1
          clear hcc hat hlen q2 hln
          by_cases h3 : 80 < ln
          · have z3 : decide ((ln : Int) > 80) = true := by simp; omega
            have z3' : decide (80 < (ln : Int)) = true := by simp; omega
            go_wp2_with fail
            go_ret
            exact ⟨_, rfl, hbw⟩
          · have z3 : decide ((ln : Int) > 80) = false := by simp; omega
            have z3' : decide (80 < (ln : Int)) = false := by simp; omega
            go_wp2_with fail
            go_roundw
            case rel => exact ⟨k + 1, by omega, by go_num, K, hbw⟩
            case measure => simp [intOf]; omega
        · obtain rfl : k = m := by omega
          have d1 : decide ((k : Int) < (k : Int)) = false := by simp
          go_wp2_with fail
          go_ret
          exact ⟨_, rfl, hbw⟩
set_option maxRecDepth 100000 in
set_option maxHeartbeats 3200000 in
theorem paints_big (IW IH IB ma mb mc md me mf : Int) (s : ByteArray) (pw ph rw_ rh : Int) (n c m d : Nat) (A D : Option Addr) (L : Nat → List (Int × Int)) (x y : Int) (w : World) (hr : rg.Rows w D m d L) (h : (20000 : Int) < (s.size : Int)) :
    Calls Try.prog 7 #[.agg #[.int .i64 IW, .int .i64 IH, .int .i64 IB, .string s], .agg #[.int .i64 ma, .int .i64 mb, .int .i64 mc, .int .i64 md, .int .i64 me, .int .i64 mf], .agg #[.int .i64 pw, .int .i64 ph, .slice A n c], .agg #[.int .i64 rw_, .int .i64 rh, .slice D m d], .int .i64 x, .int .i64 y] w fun e w' => e = .returned (.bool true) ∧ Below w.heap.size w w' := by
  have HR := Lib.hid hr
  clear hr
  have z1 : decide ((s.size : Int) > 20000) = true := by simp; omega
  have z1' : decide (20000 < (s.size : Int)) = true := by simp; omega
  go_enter Try.func7, Try.ntmps7
  go_wp2_with fail
  have hst0 : Below w.heap.size w ((((w.alloc (.cells #[.int .i64 IW, .int .i64 IH, .int .i64 IB, .string s] 23)).alloc (.cells #[.int .i64 ma, .int .i64 mb, .int .i64 mc, .int .i64 md, .int .i64 me, .int .i64 mf] 25)).alloc (.cells #[.int .i64 pw, .int .i64 ph, .slice A n c] 46)).alloc (.cells #[.int .i64 rw_, .int .i64 rh, .slice D m d] 51)) := by (repeat' (first | exact Below.refl _ _ | exact Below.refl _ _ | refine balloc ?_ _ | refine Below.drew ?_ | refine below_drewN ?_ _ | refine bset ?_ (by first | omega | (simp <;> omega)) _))
  refine (known_any _).mono ?_
  rintro e_ w1 ⟨rfl, hb⟩
  have hst : Below w.heap.size w w1 := btrans hst0 hb
  have Ki := ((((Blk.new w 23 #[.int .i64 IW, .int .i64 IH, .int .i64 IB, .string s]).alloc (.cells #[.int .i64 ma, .int .i64 mb, .int .i64 mc, .int .i64 md, .int .i64 me, .int .i64 mf] 25)).alloc (.cells #[.int .i64 pw, .int .i64 ph, .slice A n c] 46)).alloc (.cells #[.int .i64 rw_, .int .i64 rh, .slice D m d] 51))
  have Km := (((Blk.new (w.alloc (.cells #[.int .i64 IW, .int .i64 IH, .int .i64 IB, .string s] 23)) 25 #[.int .i64 ma, .int .i64 mb, .int .i64 mc, .int .i64 md, .int .i64 me, .int .i64 mf]).alloc (.cells #[.int .i64 pw, .int .i64 ph, .slice A n c] 46)).alloc (.cells #[.int .i64 rw_, .int .i64 rh, .slice D m d] 51))
  have hz_Km : (w.alloc (.cells #[.int .i64 IW, .int .i64 IH, .int .i64 IB, .string s] 23)).heap.size = w.heap.size + 1 := by simp
  rw [hz_Km] at Km
  clear hz_Km
  have Kp := ((Blk.new ((w.alloc (.cells #[.int .i64 IW, .int .i64 IH, .int .i64 IB, .string s] 23)).alloc (.cells #[.int .i64 ma, .int .i64 mb, .int .i64 mc, .int .i64 md, .int .i64 me, .int .i64 mf] 25)) 46 #[.int .i64 pw, .int .i64 ph, .slice A n c]).alloc (.cells #[.int .i64 rw_, .int .i64 rh, .slice D m d] 51))
  have hz_Kp : ((w.alloc (.cells #[.int .i64 IW, .int .i64 IH, .int .i64 IB, .string s] 23)).alloc (.cells #[.int .i64 ma, .int .i64 mb, .int .i64 mc, .int .i64 md, .int .i64 me, .int .i64 mf] 25)).heap.size = w.heap.size + 1 + 1 := by simp
  rw [hz_Kp] at Kp
  clear hz_Kp
  have Kr := (Blk.new (((w.alloc (.cells #[.int .i64 IW, .int .i64 IH, .int .i64 IB, .string s] 23)).alloc (.cells #[.int .i64 ma, .int .i64 mb, .int .i64 mc, .int .i64 md, .int .i64 me, .int .i64 mf] 25)).alloc (.cells #[.int .i64 pw, .int .i64 ph, .slice A n c] 46)) 51 #[.int .i64 rw_, .int .i64 rh, .slice D m d])
  have hz_Kr : (((w.alloc (.cells #[.int .i64 IW, .int .i64 IH, .int .i64 IB, .string s] 23)).alloc (.cells #[.int .i64 ma, .int .i64 mb, .int .i64 mc, .int .i64 md, .int .i64 me, .int .i64 mf] 25)).alloc (.cells #[.int .i64 pw, .int .i64 ph, .slice A n c] 46)).heap.size = w.heap.size + 1 + 1 + 1 := by simp
  rw [hz_Kr] at Kr
  clear hz_Kr
  replace Ki := Ki.below hb Ki.lt
  replace Km := Km.below hb Km.lt
  replace Kp := Kp.below hb Kp.lt
  replace Kr := Kr.below hb Kr.lt
  have hbw : Below w.heap.size w w1 := hst
  replace HR := Lib.hid (HR.out.below hst)
  clear hst hst0 hb 
  have lKi := Ki.lt
  have cKi0 := Ki.cell 0
  have cKi1 := Ki.cell 1
  have cKi2 := Ki.cell 2
  have cKi3 := Ki.cell 3
  have lKm := Km.lt
  have cKm0 := Km.cell 0
  have cKm1 := Km.cell 1
  have cKm2 := Km.cell 2
  have cKm3 := Km.cell 3
  have cKm4 := Km.cell 4
  have cKm5 := Km.cell 5
  have lKp := Kp.lt
  have cKp0 := Kp.cell 0
  have cKp1 := Kp.cell 1
  have cKp2 := Kp.cell 2
  have lKr := Kr.lt
  have cKr0 := Kr.cell 0
  have cKr1 := Kr.cell 1
  have cKr2 := Kr.cell 2
  simp only [List.getElem?_toArray, List.getElem?_cons_succ, List.getElem?_cons_zero] at cKi0 cKi1 cKi2 cKi3 cKm0 cKm1 cKm2 cKm3 cKm4 cKm5 cKp0 cKp1 cKp2 cKr0 cKr1 cKr2
  go_wp2_with fail
  go_ret
  exact ⟨rfl, hbw⟩
set_option maxRecDepth 100000 in
set_option maxHeartbeats 3200000 in
theorem paints_wide (IW IH IB ma mb mc md me mf : Int) (s : ByteArray) (pw ph rw_ rh : Int) (n c m d : Nat) (A D : Option Addr) (L : Nat → List (Int × Int)) (x y : Int) (w : World) (hr : rg.Rows w D m d L) (h : (s.size : Int) ≤ 20000) (h1 : 20 < x) (h2 : x ≤ 64) :
    Calls Try.prog 7 #[.agg #[.int .i64 IW, .int .i64 IH, .int .i64 IB, .string s], .agg #[.int .i64 ma, .int .i64 mb, .int .i64 mc, .int .i64 md, .int .i64 me, .int .i64 mf], .agg #[.int .i64 pw, .int .i64 ph, .slice A n c], .agg #[.int .i64 rw_, .int .i64 rh, .slice D m d], .int .i64 x, .int .i64 y] w fun e w' => e = .returned (.bool true) ∧ Below w.heap.size w w' := by
  have HR := Lib.hid hr
  clear hr
  have z1 : decide ((s.size : Int) > 20000) = false := by simp; omega
  have z1' : decide (20000 < (s.size : Int)) = false := by simp; omega
  have zx : decide (x > 20) = true := by simp; omega
  have zx' : decide (20 < x) = true := by simp; omega
  have zx2 : decide (x ≤ 64) = true := by simp; omega
  go_enter Try.func7, Try.ntmps7
  go_wp2_with fail
  have hst0 : Below w.heap.size w ((((w.alloc (.cells #[.int .i64 IW, .int .i64 IH, .int .i64 IB, .string s] 23)).alloc (.cells #[.int .i64 ma, .int .i64 mb, .int .i64 mc, .int .i64 md, .int .i64 me, .int .i64 mf] 25)).alloc (.cells #[.int .i64 pw, .int .i64 ph, .slice A n c] 46)).alloc (.cells #[.int .i64 rw_, .int .i64 rh, .slice D m d] 51)) := by (repeat' (first | exact Below.refl _ _ | exact Below.refl _ _ | refine balloc ?_ _ | refine Below.drew ?_ | refine below_drewN ?_ _ | refine bset ?_ (by first | omega | (simp <;> omega)) _))
  refine (known_any _).mono ?_
  rintro e_ w1 ⟨rfl, hb⟩
  have hst : Below w.heap.size w w1 := btrans hst0 hb
  have Ki := ((((Blk.new w 23 #[.int .i64 IW, .int .i64 IH, .int .i64 IB, .string s]).alloc (.cells #[.int .i64 ma, .int .i64 mb, .int .i64 mc, .int .i64 md, .int .i64 me, .int .i64 mf] 25)).alloc (.cells #[.int .i64 pw, .int .i64 ph, .slice A n c] 46)).alloc (.cells #[.int .i64 rw_, .int .i64 rh, .slice D m d] 51))
  have Km := (((Blk.new (w.alloc (.cells #[.int .i64 IW, .int .i64 IH, .int .i64 IB, .string s] 23)) 25 #[.int .i64 ma, .int .i64 mb, .int .i64 mc, .int .i64 md, .int .i64 me, .int .i64 mf]).alloc (.cells #[.int .i64 pw, .int .i64 ph, .slice A n c] 46)).alloc (.cells #[.int .i64 rw_, .int .i64 rh, .slice D m d] 51))
  have hz_Km : (w.alloc (.cells #[.int .i64 IW, .int .i64 IH, .int .i64 IB, .string s] 23)).heap.size = w.heap.size + 1 := by simp
  rw [hz_Km] at Km
  clear hz_Km
  have Kp := ((Blk.new ((w.alloc (.cells #[.int .i64 IW, .int .i64 IH, .int .i64 IB, .string s] 23)).alloc (.cells #[.int .i64 ma, .int .i64 mb, .int .i64 mc, .int .i64 md, .int .i64 me, .int .i64 mf] 25)) 46 #[.int .i64 pw, .int .i64 ph, .slice A n c]).alloc (.cells #[.int .i64 rw_, .int .i64 rh, .slice D m d] 51))
  have hz_Kp : ((w.alloc (.cells #[.int .i64 IW, .int .i64 IH, .int .i64 IB, .string s] 23)).alloc (.cells #[.int .i64 ma, .int .i64 mb, .int .i64 mc, .int .i64 md, .int .i64 me, .int .i64 mf] 25)).heap.size = w.heap.size + 1 + 1 := by simp
  rw [hz_Kp] at Kp
  clear hz_Kp
  have Kr := (Blk.new (((w.alloc (.cells #[.int .i64 IW, .int .i64 IH, .int .i64 IB, .string s] 23)).alloc (.cells #[.int .i64 ma, .int .i64 mb, .int .i64 mc, .int .i64 md, .int .i64 me, .int .i64 mf] 25)).alloc (.cells #[.int .i64 pw, .int .i64 ph, .slice A n c] 46)) 51 #[.int .i64 rw_, .int .i64 rh, .slice D m d])
  have hz_Kr : (((w.alloc (.cells #[.int .i64 IW, .int .i64 IH, .int .i64 IB, .string s] 23)).alloc (.cells #[.int .i64 ma, .int .i64 mb, .int .i64 mc, .int .i64 md, .int .i64 me, .int .i64 mf] 25)).alloc (.cells #[.int .i64 pw, .int .i64 ph, .slice A n c] 46)).heap.size = w.heap.size + 1 + 1 + 1 := by simp
  rw [hz_Kr] at Kr
  clear hz_Kr
  replace Ki := Ki.below hb Ki.lt
  replace Km := Km.below hb Km.lt
  replace Kp := Kp.below hb Kp.lt
  replace Kr := Kr.below hb Kr.lt
  have hbw : Below w.heap.size w w1 := hst
  replace HR := Lib.hid (HR.out.below hst)
  clear hst hst0 hb 
  have lKi := Ki.lt
  have cKi0 := Ki.cell 0
  have cKi1 := Ki.cell 1
  have cKi2 := Ki.cell 2
  have cKi3 := Ki.cell 3
  have lKm := Km.lt
  have cKm0 := Km.cell 0
  have cKm1 := Km.cell 1
  have cKm2 := Km.cell 2
  have cKm3 := Km.cell 3
  have cKm4 := Km.cell 4
  have cKm5 := Km.cell 5
  have lKp := Kp.lt
  have cKp0 := Kp.cell 0
  have cKp1 := Kp.cell 1
  have cKp2 := Kp.cell 2
  have lKr := Kr.lt
  have cKr0 := Kr.cell 0
  have cKr1 := Kr.cell 1
  have cKr2 := Kr.cell 2
  simp only [List.getElem?_toArray, List.getElem?_cons_succ, List.getElem?_cons_zero] at cKi0 cKi1 cKi2 cKi3 cKm0 cKm1 cKm2 cKm3 cKm4 cKm5 cKp0 cKp1 cKp2 cKr0 cKr1 cKr2
  go_wp2_with fail
  have hst0 : Below w1.heap.size w1 w1 := by (repeat' (first | exact Below.refl _ _ | exact Below.refl _ _ | refine balloc ?_ _ | refine Below.drew ?_ | refine below_drewN ?_ _ | refine bset ?_ (by first | omega | (simp <;> omega)) _))
  refine (few_any pw ph rw_ rh n c m d A D L _ (HR.out.below hst0)).mono ?_
  rintro e_ w2 ⟨b, rfl, hb⟩
  have hst : Below w1.heap.size w1 w2 := btrans hst0 hb
  replace Ki := Ki.below hb Ki.lt
  replace Km := Km.below hb Km.lt
  replace Kp := Kp.below hb Kp.lt
  replace Kr := Kr.below hb Kr.lt
  replace hbw : Below w.heap.size w w2 := btrans hbw hst
  replace HR := Lib.hid (HR.out.below hst)
  clear hst hst0 hb lKi cKi0 cKi1 cKi2 cKi3 lKm cKm0 cKm1 cKm2 cKm3 cKm4 cKm5 lKp cKp0 cKp1 cKp2 lKr cKr0 cKr1 cKr2
  have lKi := Ki.lt
  have cKi0 := Ki.cell 0
  have cKi1 := Ki.cell 1
  have cKi2 := Ki.cell 2
  have cKi3 := Ki.cell 3
  have lKm := Km.lt
  have cKm0 := Km.cell 0
  have cKm1 := Km.cell 1
  have cKm2 := Km.cell 2
  have cKm3 := Km.cell 3
  have cKm4 := Km.cell 4
  have cKm5 := Km.cell 5
  have lKp := Kp.lt
  have cKp0 := Kp.cell 0
  have cKp1 := Kp.cell 1
  have cKp2 := Kp.cell 2
  have lKr := Kr.lt
  have cKr0 := Kr.cell 0
  have cKr1 := Kr.cell 1
  have cKr2 := Kr.cell 2
  simp only [List.getElem?_toArray, List.getElem?_cons_succ, List.getElem?_cons_zero] at cKi0 cKi1 cKi2 cKi3 cKm0 cKm1 cKm2 cKm3 cKm4 cKm5 cKp0 cKp1 cKp2 cKr0 cKr1 cKr2
  rcases (show b = false ∨ b = true by cases b <;> simp) with h | h
  · subst h
    go_wp2_with fail
    go_ret
    exact ⟨rfl, hbw⟩
  · subst h
    go_wp2_with fail
    go_ret
    exact ⟨rfl, hbw⟩
set_option maxRecDepth 100000 in
set_option maxHeartbeats 3200000 in
theorem paints_high (IW IH IB ma mb mc md me mf : Int) (s : ByteArray) (pw ph rw_ rh : Int) (n c m d : Nat) (A D : Option Addr) (L : Nat → List (Int × Int)) (x y : Int) (w : World) (hr : rg.Rows w D m d L) (h : (s.size : Int) ≤ 20000) (h0 : ¬ (20 < x ∧ x ≤ 64)) (h1 : 20 < y) (h2 : y ≤ 64) :
    Calls Try.prog 7 #[.agg #[.int .i64 IW, .int .i64 IH, .int .i64 IB, .string s], .agg #[.int .i64 ma, .int .i64 mb, .int .i64 mc, .int .i64 md, .int .i64 me, .int .i64 mf], .agg #[.int .i64 pw, .int .i64 ph, .slice A n c], .agg #[.int .i64 rw_, .int .i64 rh, .slice D m d], .int .i64 x, .int .i64 y] w fun e w' => e = .returned (.bool true) ∧ Below w.heap.size w w' := by
  have HR := Lib.hid hr
  clear hr
  have z1 : decide ((s.size : Int) > 20000) = false := by simp; omega
  have z1' : decide (20000 < (s.size : Int)) = false := by simp; omega
  have zy : decide (y > 20) = true := by simp; omega
  have zy' : decide (20 < y) = true := by simp; omega
  have zy2 : decide (y ≤ 64) = true := by simp; omega
  rcases (show (decide (x > 20) = false ∧ decide (20 < x) = false) ∨ (decide (x > 20) = true ∧ decide (20 < x) = true ∧ decide (x ≤ 64) = false) by by_cases g : 20 < x <;> simp <;> omega) with ⟨zx, zx'⟩ | ⟨zx, zx', zx2⟩
  all_goals
    go_enter Try.func7, Try.ntmps7
    go_wp2_with fail
    have hst0 : Below w.heap.size w ((((w.alloc (.cells #[.int .i64 IW, .int .i64 IH, .int .i64 IB, .string s] 23)).alloc (.cells #[.int .i64 ma, .int .i64 mb, .int .i64 mc, .int .i64 md, .int .i64 me, .int .i64 mf] 25)).alloc (.cells #[.int .i64 pw, .int .i64 ph, .slice A n c] 46)).alloc (.cells #[.int .i64 rw_, .int .i64 rh, .slice D m d] 51)) := by (repeat' (first | exact Below.refl _ _ | exact Below.refl _ _ | refine balloc ?_ _ | refine Below.drew ?_ | refine below_drewN ?_ _ | refine bset ?_ (by first | omega | (simp <;> omega)) _))
    refine (known_any _).mono ?_
    rintro e_ w1 ⟨rfl, hb⟩
    have hst : Below w.heap.size w w1 := btrans hst0 hb
    have Ki := ((((Blk.new w 23 #[.int .i64 IW, .int .i64 IH, .int .i64 IB, .string s]).alloc (.cells #[.int .i64 ma, .int .i64 mb, .int .i64 mc, .int .i64 md, .int .i64 me, .int .i64 mf] 25)).alloc (.cells #[.int .i64 pw, .int .i64 ph, .slice A n c] 46)).alloc (.cells #[.int .i64 rw_, .int .i64 rh, .slice D m d] 51))
    have Km := (((Blk.new (w.alloc (.cells #[.int .i64 IW, .int .i64 IH, .int .i64 IB, .string s] 23)) 25 #[.int .i64 ma, .int .i64 mb, .int .i64 mc, .int .i64 md, .int .i64 me, .int .i64 mf]).alloc (.cells #[.int .i64 pw, .int .i64 ph, .slice A n c] 46)).alloc (.cells #[.int .i64 rw_, .int .i64 rh, .slice D m d] 51))
    have hz_Km : (w.alloc (.cells #[.int .i64 IW, .int .i64 IH, .int .i64 IB, .string s] 23)).heap.size = w.heap.size + 1 := by simp
    rw [hz_Km] at Km
    clear hz_Km
    have Kp := ((Blk.new ((w.alloc (.cells #[.int .i64 IW, .int .i64 IH, .int .i64 IB, .string s] 23)).alloc (.cells #[.int .i64 ma, .int .i64 mb, .int .i64 mc, .int .i64 md, .int .i64 me, .int .i64 mf] 25)) 46 #[.int .i64 pw, .int .i64 ph, .slice A n c]).alloc (.cells #[.int .i64 rw_, .int .i64 rh, .slice D m d] 51))
    have hz_Kp : ((w.alloc (.cells #[.int .i64 IW, .int .i64 IH, .int .i64 IB, .string s] 23)).alloc (.cells #[.int .i64 ma, .int .i64 mb, .int .i64 mc, .int .i64 md, .int .i64 me, .int .i64 mf] 25)).heap.size = w.heap.size + 1 + 1 := by simp
    rw [hz_Kp] at Kp
    clear hz_Kp
    have Kr := (Blk.new (((w.alloc (.cells #[.int .i64 IW, .int .i64 IH, .int .i64 IB, .string s] 23)).alloc (.cells #[.int .i64 ma, .int .i64 mb, .int .i64 mc, .int .i64 md, .int .i64 me, .int .i64 mf] 25)).alloc (.cells #[.int .i64 pw, .int .i64 ph, .slice A n c] 46)) 51 #[.int .i64 rw_, .int .i64 rh, .slice D m d])
    have hz_Kr : (((w.alloc (.cells #[.int .i64 IW, .int .i64 IH, .int .i64 IB, .string s] 23)).alloc (.cells #[.int .i64 ma, .int .i64 mb, .int .i64 mc, .int .i64 md, .int .i64 me, .int .i64 mf] 25)).alloc (.cells #[.int .i64 pw, .int .i64 ph, .slice A n c] 46)).heap.size = w.heap.size + 1 + 1 + 1 := by simp
    rw [hz_Kr] at Kr
    clear hz_Kr
    replace Ki := Ki.below hb Ki.lt
    replace Km := Km.below hb Km.lt
    replace Kp := Kp.below hb Kp.lt
    replace Kr := Kr.below hb Kr.lt
    have hbw : Below w.heap.size w w1 := hst
    replace HR := Lib.hid (HR.out.below hst)
    clear hst hst0 hb 
    have lKi := Ki.lt
    have cKi0 := Ki.cell 0
    have cKi1 := Ki.cell 1
    have cKi2 := Ki.cell 2
    have cKi3 := Ki.cell 3
    have lKm := Km.lt
    have cKm0 := Km.cell 0
    have cKm1 := Km.cell 1
    have cKm2 := Km.cell 2
    have cKm3 := Km.cell 3
    have cKm4 := Km.cell 4
    have cKm5 := Km.cell 5
    have lKp := Kp.lt
    have cKp0 := Kp.cell 0
    have cKp1 := Kp.cell 1
    have cKp2 := Kp.cell 2
    have lKr := Kr.lt
    have cKr0 := Kr.cell 0
    have cKr1 := Kr.cell 1
    have cKr2 := Kr.cell 2
    simp only [List.getElem?_toArray, List.getElem?_cons_succ, List.getElem?_cons_zero] at cKi0 cKi1 cKi2 cKi3 cKm0 cKm1 cKm2 cKm3 cKm4 cKm5 cKp0 cKp1 cKp2 cKr0 cKr1 cKr2
    go_wp2_with fail
    have hst0 : Below w1.heap.size w1 w1 := by (repeat' (first | exact Below.refl _ _ | exact Below.refl _ _ | refine balloc ?_ _ | refine Below.drew ?_ | refine below_drewN ?_ _ | refine bset ?_ (by first | omega | (simp <;> omega)) _))
    refine (few_any pw ph rw_ rh n c m d A D L _ (HR.out.below hst0)).mono ?_
    rintro e_ w2 ⟨b, rfl, hb⟩
    have hst : Below w1.heap.size w1 w2 := btrans hst0 hb
    replace Ki := Ki.below hb Ki.lt
    replace Km := Km.below hb Km.lt
    replace Kp := Kp.below hb Kp.lt
    replace Kr := Kr.below hb Kr.lt
    replace hbw : Below w.heap.size w w2 := btrans hbw hst
    replace HR := Lib.hid (HR.out.below hst)
    clear hst hst0 hb lKi cKi0 cKi1 cKi2 cKi3 lKm cKm0 cKm1 cKm2 cKm3 cKm4 cKm5 lKp cKp0 cKp1 cKp2 lKr cKr0 cKr1 cKr2
    have lKi := Ki.lt
    have cKi0 := Ki.cell 0
    have cKi1 := Ki.cell 1
    have cKi2 := Ki.cell 2
    have cKi3 := Ki.cell 3
    have lKm := Km.lt
    have cKm0 := Km.cell 0
    have cKm1 := Km.cell 1
    have cKm2 := Km.cell 2
    have cKm3 := Km.cell 3
    have cKm4 := Km.cell 4
    have cKm5 := Km.cell 5
    have lKp := Kp.lt
    have cKp0 := Kp.cell 0
    have cKp1 := Kp.cell 1
    have cKp2 := Kp.cell 2
    have lKr := Kr.lt
    have cKr0 := Kr.cell 0
    have cKr1 := Kr.cell 1
    have cKr2 := Kr.cell 2
    simp only [List.getElem?_toArray, List.getElem?_cons_succ, List.getElem?_cons_zero] at cKi0 cKi1 cKi2 cKi3 cKm0 cKm1 cKm2 cKm3 cKm4 cKm5 cKp0 cKp1 cKp2 cKr0 cKr1 cKr2
    rcases (show b = false ∨ b = true by cases b <;> simp) with h | h
    · subst h
      go_wp2_with fail
      go_ret
      exact ⟨rfl, hbw⟩
    · subst h
      go_wp2_with fail
      go_ret
      exact ⟨rfl, hbw⟩
set_option maxRecDepth 100000 in
set_option maxHeartbeats 3200000 in
theorem paints_err_err (IW IH IB ma mb mc md me mf : Int) (s : ByteArray) (pw ph rw_ rh : Int) (n c m d : Nat) (A D : Option Addr) (L : Nat → List (Int × Int)) (x y : Int) (w : World) (hr : rg.Rows w D m d L) (h : (s.size : Int) ≤ 20000) (h0 : ¬ (20 < x ∧ x ≤ 64)) (h1 : ¬ (20 < y ∧ y ≤ 64))
    (er : Int) (HRG : Hid (∀ W', Calls Try.prog 38 #[.agg #[.int .i64 IW, .int .i64 IH, .int .i64 IB, .string s], .agg #[.int .i64 ma, .int .i64 mb, .int .i64 mc, .int .i64 md, .int .i64 me, .int .i64 mf], .int .i64 x, .int .i64 y] W' fun ed w' => ed = .returned (.tuple #[.agg #[.int .i64 0, .int .i64 0, .slice none 0 0], .int .i64 er]) ∧ Below W'.heap.size W' w')) (HRR : Hid (∀ W', Calls Try.prog 39 #[.agg #[.int .i64 IW, .int .i64 IH, .int .i64 IB, .string s], .agg #[.int .i64 ma, .int .i64 mb, .int .i64 mc, .int .i64 md, .int .i64 me, .int .i64 mf], .int .i64 x, .int .i64 y] W' fun ed w' => ed = .returned (.tuple #[.agg #[.int .i64 0, .int .i64 0, .slice none 0 0], .int .i64 er]) ∧ Below W'.heap.size W' w'))
    (ep : Int) (HPT : Hid (∀ W', rg.Rows W' D m d L → Calls Try.prog 31 #[.agg #[.int .i64 pw, .int .i64 ph, .slice A n c], .agg #[.int .i64 IW, .int .i64 IH, .int .i64 IB, .string s], .agg #[.int .i64 ma, .int .i64 mb, .int .i64 mc, .int .i64 md, .int .i64 me, .int .i64 mf], .agg #[.int .i64 rw_, .int .i64 rh, .slice D m d]] W' fun ed w' => ed = .returned (.tuple #[.agg #[.int .i64 0, .int .i64 0, .slice none 0 0], .int .i64 ep]) ∧ Below W'.heap.size W' w')) (HRP : Hid (∀ W', rg.Rows W' D m d L → Calls Try.prog 40 #[.agg #[.int .i64 pw, .int .i64 ph, .slice A n c], .agg #[.int .i64 IW, .int .i64 IH, .int .i64 IB, .string s], .agg #[.int .i64 ma, .int .i64 mb, .int .i64 mc, .int .i64 md, .int .i64 me, .int .i64 mf], .agg #[.int .i64 rw_, .int .i64 rh, .slice D m d]] W' fun ed w' => ed = .returned (.tuple #[.agg #[.int .i64 0, .int .i64 0, .slice none 0 0], .int .i64 ep]) ∧ Below W'.heap.size W' w')) :
    Calls Try.prog 7 #[.agg #[.int .i64 IW, .int .i64 IH, .int .i64 IB, .string s], .agg #[.int .i64 ma, .int .i64 mb, .int .i64 mc, .int .i64 md, .int .i64 me, .int .i64 mf], .agg #[.int .i64 pw, .int .i64 ph, .slice A n c], .agg #[.int .i64 rw_, .int .i64 rh, .slice D m d], .int .i64 x, .int .i64 y] w fun e w' => e = .returned (.bool true) ∧ Below w.heap.size w w' := by
  have HR := Lib.hid hr
  clear hr
  have z1 : decide ((s.size : Int) > 20000) = false := by simp; omega
  have z1' : decide (20000 < (s.size : Int)) = false := by simp; omega
  rcases (show (decide (x > 20) = false ∧ decide (20 < x) = false) ∨ (decide (x > 20) = true ∧ decide (20 < x) = true ∧ decide (x ≤ 64) = false) by by_cases g : 20 < x <;> simp <;> omega) with ⟨zx, zx'⟩ | ⟨zx, zx', zx2⟩
  all_goals
    rcases (show (decide (y > 20) = false ∧ decide (20 < y) = false) ∨ (decide (y > 20) = true ∧ decide (20 < y) = true ∧ decide (y ≤ 64) = false) by by_cases g : 20 < y <;> simp <;> omega) with ⟨zy, zy'⟩ | ⟨zy, zy', zy2⟩
  all_goals
    clear h h0 h1
    have HHR := Lib.hid (fun W' => hregion_nil W')
    have HHP := Lib.hid (fun W' => hpage_nil W')
    go_enter Try.func7, Try.ntmps7
    go_wp2_with fail
    have hst0 : Below w.heap.size w ((((w.alloc (.cells #[.int .i64 IW, .int .i64 IH, .int .i64 IB, .string s] 23)).alloc (.cells #[.int .i64 ma, .int .i64 mb, .int .i64 mc, .int .i64 md, .int .i64 me, .int .i64 mf] 25)).alloc (.cells #[.int .i64 pw, .int .i64 ph, .slice A n c] 46)).alloc (.cells #[.int .i64 rw_, .int .i64 rh, .slice D m d] 51)) := by (repeat' (first | exact Below.refl _ _ | exact Below.refl _ _ | refine balloc ?_ _ | refine Below.drew ?_ | refine below_drewN ?_ _ | refine bset ?_ (by first | omega | (simp <;> omega)) _))
    refine (known_any _).mono ?_
    rintro e_ w1 ⟨rfl, hb⟩
    have hst : Below w.heap.size w w1 := btrans hst0 hb
    have Ki := ((((Blk.new w 23 #[.int .i64 IW, .int .i64 IH, .int .i64 IB, .string s]).alloc (.cells #[.int .i64 ma, .int .i64 mb, .int .i64 mc, .int .i64 md, .int .i64 me, .int .i64 mf] 25)).alloc (.cells #[.int .i64 pw, .int .i64 ph, .slice A n c] 46)).alloc (.cells #[.int .i64 rw_, .int .i64 rh, .slice D m d] 51))
    have Km := (((Blk.new (w.alloc (.cells #[.int .i64 IW, .int .i64 IH, .int .i64 IB, .string s] 23)) 25 #[.int .i64 ma, .int .i64 mb, .int .i64 mc, .int .i64 md, .int .i64 me, .int .i64 mf]).alloc (.cells #[.int .i64 pw, .int .i64 ph, .slice A n c] 46)).alloc (.cells #[.int .i64 rw_, .int .i64 rh, .slice D m d] 51))
    have hz_Km : (w.alloc (.cells #[.int .i64 IW, .int .i64 IH, .int .i64 IB, .string s] 23)).heap.size = w.heap.size + 1 := by simp
    rw [hz_Km] at Km
    clear hz_Km
    have Kp := ((Blk.new ((w.alloc (.cells #[.int .i64 IW, .int .i64 IH, .int .i64 IB, .string s] 23)).alloc (.cells #[.int .i64 ma, .int .i64 mb, .int .i64 mc, .int .i64 md, .int .i64 me, .int .i64 mf] 25)) 46 #[.int .i64 pw, .int .i64 ph, .slice A n c]).alloc (.cells #[.int .i64 rw_, .int .i64 rh, .slice D m d] 51))
    have hz_Kp : ((w.alloc (.cells #[.int .i64 IW, .int .i64 IH, .int .i64 IB, .string s] 23)).alloc (.cells #[.int .i64 ma, .int .i64 mb, .int .i64 mc, .int .i64 md, .int .i64 me, .int .i64 mf] 25)).heap.size = w.heap.size + 1 + 1 := by simp
    rw [hz_Kp] at Kp
    clear hz_Kp
    have Kr := (Blk.new (((w.alloc (.cells #[.int .i64 IW, .int .i64 IH, .int .i64 IB, .string s] 23)).alloc (.cells #[.int .i64 ma, .int .i64 mb, .int .i64 mc, .int .i64 md, .int .i64 me, .int .i64 mf] 25)).alloc (.cells #[.int .i64 pw, .int .i64 ph, .slice A n c] 46)) 51 #[.int .i64 rw_, .int .i64 rh, .slice D m d])
    have hz_Kr : (((w.alloc (.cells #[.int .i64 IW, .int .i64 IH, .int .i64 IB, .string s] 23)).alloc (.cells #[.int .i64 ma, .int .i64 mb, .int .i64 mc, .int .i64 md, .int .i64 me, .int .i64 mf] 25)).alloc (.cells #[.int .i64 pw, .int .i64 ph, .slice A n c] 46)).heap.size = w.heap.size + 1 + 1 + 1 := by simp
    rw [hz_Kr] at Kr
    clear hz_Kr
    replace Ki := Ki.below hb Ki.lt
    replace Km := Km.below hb Km.lt
    replace Kp := Kp.below hb Kp.lt
    replace Kr := Kr.below hb Kr.lt
    have hbw : Below w.heap.size w w1 := hst
    replace HR := Lib.hid (HR.out.below hst)
    clear hst hst0 hb 
    have lKi := Ki.lt
    have cKi0 := Ki.cell 0
    have cKi1 := Ki.cell 1
    have cKi2 := Ki.cell 2
    have cKi3 := Ki.cell 3
    have lKm := Km.lt
    have cKm0 := Km.cell 0
    have cKm1 := Km.cell 1
    have cKm2 := Km.cell 2
    have cKm3 := Km.cell 3
    have cKm4 := Km.cell 4
    have cKm5 := Km.cell 5
    have lKp := Kp.lt
    have cKp0 := Kp.cell 0
    have cKp1 := Kp.cell 1
    have cKp2 := Kp.cell 2
    have lKr := Kr.lt
    have cKr0 := Kr.cell 0
    have cKr1 := Kr.cell 1
    have cKr2 := Kr.cell 2
    simp only [List.getElem?_toArray, List.getElem?_cons_succ, List.getElem?_cons_zero] at cKi0 cKi1 cKi2 cKi3 cKm0 cKm1 cKm2 cKm3 cKm4 cKm5 cKp0 cKp1 cKp2 cKr0 cKr1 cKr2
    go_wp2_with fail
    have hst0 : Below w1.heap.size w1 w1 := by (repeat' (first | exact Below.refl _ _ | exact Below.refl _ _ | refine balloc ?_ _ | refine Below.drew ?_ | refine below_drewN ?_ _ | refine bset ?_ (by first | omega | (simp <;> omega)) _))
    refine (few_any pw ph rw_ rh n c m d A D L _ (HR.out.below hst0)).mono ?_
    rintro e_ w2 ⟨b, rfl, hb⟩
    have hst : Below w1.heap.size w1 w2 := btrans hst0 hb
    replace Ki := Ki.below hb Ki.lt
    replace Km := Km.below hb Km.lt
    replace Kp := Kp.below hb Kp.lt
    replace Kr := Kr.below hb Kr.lt
    replace hbw : Below w.heap.size w w2 := btrans hbw hst
    replace HR := Lib.hid (HR.out.below hst)
    clear hst hst0 hb lKi cKi0 cKi1 cKi2 cKi3 lKm cKm0 cKm1 cKm2 cKm3 cKm4 cKm5 lKp cKp0 cKp1 cKp2 lKr cKr0 cKr1 cKr2
    have lKi := Ki.lt
    have cKi0 := Ki.cell 0
    have cKi1 := Ki.cell 1
    have cKi2 := Ki.cell 2
    have cKi3 := Ki.cell 3
    have lKm := Km.lt
    have cKm0 := Km.cell 0
    have cKm1 := Km.cell 1
    have cKm2 := Km.cell 2
    have cKm3 := Km.cell 3
    have cKm4 := Km.cell 4
    have cKm5 := Km.cell 5
    have lKp := Kp.lt
    have cKp0 := Kp.cell 0
    have cKp1 := Kp.cell 1
    have cKp2 := Kp.cell 2
    have lKr := Kr.lt
    have cKr0 := Kr.cell 0
    have cKr1 := Kr.cell 1
    have cKr2 := Kr.cell 2
    simp only [List.getElem?_toArray, List.getElem?_cons_succ, List.getElem?_cons_zero] at cKi0 cKi1 cKi2 cKi3 cKm0 cKm1 cKm2 cKm3 cKm4 cKm5 cKp0 cKp1 cKp2 cKr0 cKr1 cKr2
    rcases (show b = false ∨ b = true by cases b <;> simp) with h | h
    · subst h
      go_wp2_with fail
      go_ret
      exact ⟨rfl, hbw⟩
    subst h
    go_wp2_with fail
    have hst0 : Below w2.heap.size w2 w2 := by (repeat' (first | exact Below.refl _ _ | exact Below.refl _ _ | refine balloc ?_ _ | refine Below.drew ?_ | refine below_drewN ?_ _ | refine bset ?_ (by first | omega | (simp <;> omega)) _))
    refine (HRG.out _).mono ?_
    rintro e_ w3 ⟨rfl, hb⟩
    have hst : Below w2.heap.size w2 w3 := btrans hst0 hb
    replace Ki := Ki.below hb Ki.lt
    replace Km := Km.below hb Km.lt
    replace Kp := Kp.below hb Kp.lt
    replace Kr := Kr.below hb Kr.lt
    replace hbw : Below w.heap.size w w3 := btrans hbw hst
    replace HR := Lib.hid (HR.out.below hst)
    clear hst hst0 hb lKi cKi0 cKi1 cKi2 cKi3 lKm cKm0 cKm1 cKm2 cKm3 cKm4 cKm5 lKp cKp0 cKp1 cKp2 lKr cKr0 cKr1 cKr2
    have lKi := Ki.lt
    have cKi0 := Ki.cell 0
    have cKi1 := Ki.cell 1
    have cKi2 := Ki.cell 2
    have cKi3 := Ki.cell 3
    have lKm := Km.lt
    have cKm0 := Km.cell 0
    have cKm1 := Km.cell 1
    have cKm2 := Km.cell 2
    have cKm3 := Km.cell 3
    have cKm4 := Km.cell 4
    have cKm5 := Km.cell 5
    have lKp := Kp.lt
    have cKp0 := Kp.cell 0
    have cKp1 := Kp.cell 1
    have cKp2 := Kp.cell 2
    have lKr := Kr.lt
    have cKr0 := Kr.cell 0
    have cKr1 := Kr.cell 1
    have cKr2 := Kr.cell 2
    simp only [List.getElem?_toArray, List.getElem?_cons_succ, List.getElem?_cons_zero] at cKi0 cKi1 cKi2 cKi3 cKm0 cKm1 cKm2 cKm3 cKm4 cKm5 cKp0 cKp1 cKp2 cKr0 cKr1 cKr2
    go_wp2_with fail
    have hst0 : Below w3.heap.size w3 (w3.alloc (.cells #[.int .i64 0, .int .i64 0, .slice none 0 0] 51)) := by (repeat' (first | exact Below.refl _ _ | exact Below.refl _ _ | refine balloc ?_ _ | refine Below.drew ?_ | refine below_drewN ?_ _ | refine bset ?_ (by first | omega | (simp <;> omega)) _))
    refine (HRR.out _).mono ?_
    rintro e_ w4 ⟨rfl, hb⟩
    have hst : Below w3.heap.size w3 w4 := btrans hst0 hb
    replace Ki := (Ki.alloc (.cells #[.int .i64 0, .int .i64 0, .slice none 0 0] 51))
    replace Km := (Km.alloc (.cells #[.int .i64 0, .int .i64 0, .slice none 0 0] 51))
    replace Kp := (Kp.alloc (.cells #[.int .i64 0, .int .i64 0, .slice none 0 0] 51))
    replace Kr := (Kr.alloc (.cells #[.int .i64 0, .int .i64 0, .slice none 0 0] 51))
    have Ka := (Blk.new w3 51 #[.int .i64 0, .int .i64 0, .slice none 0 0])
    replace Ki := Ki.below hb Ki.lt
    replace Km := Km.below hb Km.lt
    replace Kp := Kp.below hb Kp.lt
    replace Kr := Kr.below hb Kr.lt
    replace Ka := Ka.below hb Ka.lt
    replace hbw : Below w.heap.size w w4 := btrans hbw hst
    replace HR := Lib.hid (HR.out.below hst)
    clear hst hst0 hb lKi cKi0 cKi1 cKi2 cKi3 lKm cKm0 cKm1 cKm2 cKm3 cKm4 cKm5 lKp cKp0 cKp1 cKp2 lKr cKr0 cKr1 cKr2
    have lKi := Ki.lt
    have cKi0 := Ki.cell 0
    have cKi1 := Ki.cell 1
    have cKi2 := Ki.cell 2
    have cKi3 := Ki.cell 3
    have lKm := Km.lt
    have cKm0 := Km.cell 0
    have cKm1 := Km.cell 1
    have cKm2 := Km.cell 2
    have cKm3 := Km.cell 3
    have cKm4 := Km.cell 4
    have cKm5 := Km.cell 5
    have lKp := Kp.lt
    have cKp0 := Kp.cell 0
    have cKp1 := Kp.cell 1
    have cKp2 := Kp.cell 2
    have lKr := Kr.lt
    have cKr0 := Kr.cell 0
    have cKr1 := Kr.cell 1
    have cKr2 := Kr.cell 2
    have lKa := Ka.lt
    have cKa0 := Ka.cell 0
    have cKa1 := Ka.cell 1
    have cKa2 := Ka.cell 2
    simp only [List.getElem?_toArray, List.getElem?_cons_succ, List.getElem?_cons_zero] at cKi0 cKi1 cKi2 cKi3 cKm0 cKm1 cKm2 cKm3 cKm4 cKm5 cKp0 cKp1 cKp2 cKr0 cKr1 cKr2 cKa0 cKa1 cKa2
    go_wp2_with fail
    have hst0 : Below w4.heap.size w4 (w4.alloc (.cells #[.int .i64 0, .int .i64 0, .slice none 0 0] 51)) := by (repeat' (first | exact Below.refl _ _ | exact Below.refl _ _ | refine balloc ?_ _ | refine Below.drew ?_ | refine below_drewN ?_ _ | refine bset ?_ (by first | omega | (simp <;> omega)) _))
    refine (HPT.out _ (HR.out.below hst0)).mono ?_
    rintro e_ w5 ⟨rfl, hb⟩
    have hst : Below w4.heap.size w4 w5 := btrans hst0 hb
    replace Ki := (Ki.alloc (.cells #[.int .i64 0, .int .i64 0, .slice none 0 0] 51))
    replace Km := (Km.alloc (.cells #[.int .i64 0, .int .i64 0, .slice none 0 0] 51))
    replace Kp := (Kp.alloc (.cells #[.int .i64 0, .int .i64 0, .slice none 0 0] 51))
    replace Kr := (Kr.alloc (.cells #[.int .i64 0, .int .i64 0, .slice none 0 0] 51))
    replace Ka := (Ka.alloc (.cells #[.int .i64 0, .int .i64 0, .slice none 0 0] 51))
    have Kb := (Blk.new w4 51 #[.int .i64 0, .int .i64 0, .slice none 0 0])
    replace Ki := Ki.below hb Ki.lt
    replace Km := Km.below hb Km.lt
    replace Kp := Kp.below hb Kp.lt
    replace Kr := Kr.below hb Kr.lt
    replace Ka := Ka.below hb Ka.lt
    replace Kb := Kb.below hb Kb.lt
    replace hbw : Below w.heap.size w w5 := btrans hbw hst
    replace HR := Lib.hid (HR.out.below hst)
    clear hst hst0 hb lKi cKi0 cKi1 cKi2 cKi3 lKm cKm0 cKm1 cKm2 cKm3 cKm4 cKm5 lKp cKp0 cKp1 cKp2 lKr cKr0 cKr1 cKr2 lKa cKa0 cKa1 cKa2
    have lKi := Ki.lt
    have cKi0 := Ki.cell 0
    have cKi1 := Ki.cell 1
    have cKi2 := Ki.cell 2
    have cKi3 := Ki.cell 3
    have lKm := Km.lt
    have cKm0 := Km.cell 0
    have cKm1 := Km.cell 1
    have cKm2 := Km.cell 2
    have cKm3 := Km.cell 3
    have cKm4 := Km.cell 4
    have cKm5 := Km.cell 5
    have lKp := Kp.lt
    have cKp0 := Kp.cell 0
    have cKp1 := Kp.cell 1
    have cKp2 := Kp.cell 2
    have lKr := Kr.lt
    have cKr0 := Kr.cell 0
    have cKr1 := Kr.cell 1
    have cKr2 := Kr.cell 2
    have lKa := Ka.lt
    have cKa0 := Ka.cell 0
    have cKa1 := Ka.cell 1
    have cKa2 := Ka.cell 2
    have lKb := Kb.lt
    have cKb0 := Kb.cell 0
    have cKb1 := Kb.cell 1
    have cKb2 := Kb.cell 2
    simp only [List.getElem?_toArray, List.getElem?_cons_succ, List.getElem?_cons_zero] at cKi0 cKi1 cKi2 cKi3 cKm0 cKm1 cKm2 cKm3 cKm4 cKm5 cKp0 cKp1 cKp2 cKr0 cKr1 cKr2 cKa0 cKa1 cKa2 cKb0 cKb1 cKb2
    go_wp2_with fail
    have hst0 : Below w5.heap.size w5 (w5.alloc (.cells #[.int .i64 0, .int .i64 0, .slice none 0 0] 46)) := by (repeat' (first | exact Below.refl _ _ | exact Below.refl _ _ | refine balloc ?_ _ | refine Below.drew ?_ | refine below_drewN ?_ _ | refine bset ?_ (by first | omega | (simp <;> omega)) _))
    refine (HRP.out _ (HR.out.below hst0)).mono ?_
    rintro e_ w6 ⟨rfl, hb⟩
    have hst : Below w5.heap.size w5 w6 := btrans hst0 hb
    replace Ki := (Ki.alloc (.cells #[.int .i64 0, .int .i64 0, .slice none 0 0] 46))
    replace Km := (Km.alloc (.cells #[.int .i64 0, .int .i64 0, .slice none 0 0] 46))
    replace Kp := (Kp.alloc (.cells #[.int .i64 0, .int .i64 0, .slice none 0 0] 46))
    replace Kr := (Kr.alloc (.cells #[.int .i64 0, .int .i64 0, .slice none 0 0] 46))
    replace Ka := (Ka.alloc (.cells #[.int .i64 0, .int .i64 0, .slice none 0 0] 46))
    replace Kb := (Kb.alloc (.cells #[.int .i64 0, .int .i64 0, .slice none 0 0] 46))
    have Kc := (Blk.new w5 46 #[.int .i64 0, .int .i64 0, .slice none 0 0])
    replace Ki := Ki.below hb Ki.lt
    replace Km := Km.below hb Km.lt
    replace Kp := Kp.below hb Kp.lt
    replace Kr := Kr.below hb Kr.lt
    replace Ka := Ka.below hb Ka.lt
    replace Kb := Kb.below hb Kb.lt
    replace Kc := Kc.below hb Kc.lt
    replace hbw : Below w.heap.size w w6 := btrans hbw hst
    replace HR := Lib.hid (HR.out.below hst)
    clear hst hst0 hb lKi cKi0 cKi1 cKi2 cKi3 lKm cKm0 cKm1 cKm2 cKm3 cKm4 cKm5 lKp cKp0 cKp1 cKp2 lKr cKr0 cKr1 cKr2 lKa cKa0 cKa1 cKa2 lKb cKb0 cKb1 cKb2
    have lKi := Ki.lt
    have cKi0 := Ki.cell 0
    have cKi1 := Ki.cell 1
    have cKi2 := Ki.cell 2
    have cKi3 := Ki.cell 3
    have lKm := Km.lt
    have cKm0 := Km.cell 0
    have cKm1 := Km.cell 1
    have cKm2 := Km.cell 2
    have cKm3 := Km.cell 3
    have cKm4 := Km.cell 4
    have cKm5 := Km.cell 5
    have lKp := Kp.lt
    have cKp0 := Kp.cell 0
    have cKp1 := Kp.cell 1
    have cKp2 := Kp.cell 2
    have lKr := Kr.lt
    have cKr0 := Kr.cell 0
    have cKr1 := Kr.cell 1
    have cKr2 := Kr.cell 2
    have lKa := Ka.lt
    have cKa0 := Ka.cell 0
    have cKa1 := Ka.cell 1
    have cKa2 := Ka.cell 2
    have lKb := Kb.lt
    have cKb0 := Kb.cell 0
    have cKb1 := Kb.cell 1
    have cKb2 := Kb.cell 2
    have lKc := Kc.lt
    have cKc0 := Kc.cell 0
    have cKc1 := Kc.cell 1
    have cKc2 := Kc.cell 2
    simp only [List.getElem?_toArray, List.getElem?_cons_succ, List.getElem?_cons_zero] at cKi0 cKi1 cKi2 cKi3 cKm0 cKm1 cKm2 cKm3 cKm4 cKm5 cKp0 cKp1 cKp2 cKr0 cKr1 cKr2 cKa0 cKa1 cKa2 cKb0 cKb1 cKb2 cKc0 cKc1 cKc2
    go_wp2_with fail
    have hst0 : Below w6.heap.size w6 (w6.alloc (.cells #[.int .i64 0, .int .i64 0, .slice none 0 0] 46)) := by (repeat' (first | exact Below.refl _ _ | exact Below.refl _ _ | refine balloc ?_ _ | refine Below.drew ?_ | refine below_drewN ?_ _ | refine bset ?_ (by first | omega | (simp <;> omega)) _))
    refine (HHR.out _).mono ?_
    rintro e_ w7 ⟨rfl, hb⟩
    have hst : Below w6.heap.size w6 w7 := btrans hst0 hb
    replace Ki := (Ki.alloc (.cells #[.int .i64 0, .int .i64 0, .slice none 0 0] 46))
    replace Km := (Km.alloc (.cells #[.int .i64 0, .int .i64 0, .slice none 0 0] 46))
    replace Kp := (Kp.alloc (.cells #[.int .i64 0, .int .i64 0, .slice none 0 0] 46))
    replace Kr := (Kr.alloc (.cells #[.int .i64 0, .int .i64 0, .slice none 0 0] 46))
    replace Ka := (Ka.alloc (.cells #[.int .i64 0, .int .i64 0, .slice none 0 0] 46))
    replace Kb := (Kb.alloc (.cells #[.int .i64 0, .int .i64 0, .slice none 0 0] 46))
    replace Kc := (Kc.alloc (.cells #[.int .i64 0, .int .i64 0, .slice none 0 0] 46))
    have Kd := (Blk.new w6 46 #[.int .i64 0, .int .i64 0, .slice none 0 0])
    replace Ki := Ki.below hb Ki.lt
    replace Km := Km.below hb Km.lt
    replace Kp := Kp.below hb Kp.lt
    replace Kr := Kr.below hb Kr.lt
    replace Ka := Ka.below hb Ka.lt
    replace Kb := Kb.below hb Kb.lt
    replace Kc := Kc.below hb Kc.lt
    replace Kd := Kd.below hb Kd.lt
    replace hbw : Below w.heap.size w w7 := btrans hbw hst
    replace HR := Lib.hid (HR.out.below hst)
    clear hst hst0 hb lKi cKi0 cKi1 cKi2 cKi3 lKm cKm0 cKm1 cKm2 cKm3 cKm4 cKm5 lKp cKp0 cKp1 cKp2 lKr cKr0 cKr1 cKr2 lKa cKa0 cKa1 cKa2 lKb cKb0 cKb1 cKb2 lKc cKc0 cKc1 cKc2 Ki Km Kp Kr
    have lKa := Ka.lt
    have cKa0 := Ka.cell 0
    have cKa1 := Ka.cell 1
    have cKa2 := Ka.cell 2
    have lKb := Kb.lt
    have cKb0 := Kb.cell 0
    have cKb1 := Kb.cell 1
    have cKb2 := Kb.cell 2
    have lKc := Kc.lt
    have cKc0 := Kc.cell 0
    have cKc1 := Kc.cell 1
    have cKc2 := Kc.cell 2
    have lKd := Kd.lt
    have cKd0 := Kd.cell 0
    have cKd1 := Kd.cell 1
    have cKd2 := Kd.cell 2
    simp only [List.getElem?_toArray, List.getElem?_cons_succ, List.getElem?_cons_zero] at cKa0 cKa1 cKa2 cKb0 cKb1 cKb2 cKc0 cKc1 cKc2 cKd0 cKd1 cKd2
    go_wp2_with fail
    have hst0 : Below w7.heap.size w7 w7 := by (repeat' (first | exact Below.refl _ _ | exact Below.refl _ _ | refine balloc ?_ _ | refine Below.drew ?_ | refine below_drewN ?_ _ | refine bset ?_ (by first | omega | (simp <;> omega)) _))
    refine (HHP.out _).mono ?_
    rintro e_ w8 ⟨rfl, hb⟩
    have hst : Below w7.heap.size w7 w8 := btrans hst0 hb
    replace Ka := Ka.below hb Ka.lt
    replace Kb := Kb.below hb Kb.lt
    replace Kc := Kc.below hb Kc.lt
    replace Kd := Kd.below hb Kd.lt
    replace hbw : Below w.heap.size w w8 := btrans hbw hst
    replace HR := Lib.hid (HR.out.below hst)
    clear hst hst0 hb lKa cKa0 cKa1 cKa2 lKb cKb0 cKb1 cKb2 lKc cKc0 cKc1 cKc2 lKd cKd0 cKd1 cKd2
    have lKa := Ka.lt
    have cKa0 := Ka.cell 0
    have cKa1 := Ka.cell 1
    have cKa2 := Ka.cell 2
    have lKb := Kb.lt
    have cKb0 := Kb.cell 0
    have cKb1 := Kb.cell 1
    have cKb2 := Kb.cell 2
    have lKc := Kc.lt
    have cKc0 := Kc.cell 0
    have cKc1 := Kc.cell 1
    have cKc2 := Kc.cell 2
    have lKd := Kd.lt
    have cKd0 := Kd.cell 0
    have cKd1 := Kd.cell 1
    have cKd2 := Kd.cell 2
    simp only [List.getElem?_toArray, List.getElem?_cons_succ, List.getElem?_cons_zero] at cKa0 cKa1 cKa2 cKb0 cKb1 cKb2 cKc0 cKc1 cKc2 cKd0 cKd1 cKd2
    go_wp2_with fail
    go_ret
    exact ⟨by first | rfl | simp, by (repeat' (first | refine bset ?_ (by first | omega | (simp <;> omega)) _ | refine balloc ?_ _ | refine Below.drew ?_ | refine below_drewN ?_ _ | exact hbw | exact Below.refl _ _))⟩
set_option maxRecDepth 100000 in
set_option maxHeartbeats 3200000 in
theorem paints_err_ok (IW IH IB ma mb mc md me mf : Int) (s : ByteArray) (pw ph rw_ rh : Int) (n c m d : Nat) (A D : Option Addr) (L : Nat → List (Int × Int)) (x y : Int) (w : World) (hr : rg.Rows w D m d L) (h : (s.size : Int) ≤ 20000) (h0 : ¬ (20 < x ∧ x ≤ 64)) (h1 : ¬ (20 < y ∧ y ≤ 64))
    (er : Int) (HRG : Hid (∀ W', Calls Try.prog 38 #[.agg #[.int .i64 IW, .int .i64 IH, .int .i64 IB, .string s], .agg #[.int .i64 ma, .int .i64 mb, .int .i64 mc, .int .i64 md, .int .i64 me, .int .i64 mf], .int .i64 x, .int .i64 y] W' fun ed w' => ed = .returned (.tuple #[.agg #[.int .i64 0, .int .i64 0, .slice none 0 0], .int .i64 er]) ∧ Below W'.heap.size W' w')) (HRR : Hid (∀ W', Calls Try.prog 39 #[.agg #[.int .i64 IW, .int .i64 IH, .int .i64 IB, .string s], .agg #[.int .i64 ma, .int .i64 mb, .int .i64 mc, .int .i64 md, .int .i64 me, .int .i64 mf], .int .i64 x, .int .i64 y] W' fun ed w' => ed = .returned (.tuple #[.agg #[.int .i64 0, .int .i64 0, .slice none 0 0], .int .i64 er]) ∧ Below W'.heap.size W' w'))
    (Y Y2 : Nat → Int) (hp : Pg w A n c Y) (HPT : Hid (∀ W', Pg W' A n c Y → rg.Rows W' D m d L → Calls Try.prog 31 #[.agg #[.int .i64 pw, .int .i64 ph, .slice A n c], .agg #[.int .i64 IW, .int .i64 IH, .int .i64 IB, .string s], .agg #[.int .i64 ma, .int .i64 mb, .int .i64 mc, .int .i64 md, .int .i64 me, .int .i64 mf], .agg #[.int .i64 rw_, .int .i64 rh, .slice D m d]] W' fun ed w' => ∃ g ff, ed = .returned (.tuple #[.agg #[.int .i64 pw, .int .i64 ph, .slice (some ⟨g, 0, none⟩) n ff], .int .i64 0]) ∧ Pg w' (some ⟨g, 0, none⟩) n ff Y2 ∧ Below W'.heap.size W' w')) (HRP : Hid (∀ W', Pg W' A n c Y → rg.Rows W' D m d L → Calls Try.prog 40 #[.agg #[.int .i64 pw, .int .i64 ph, .slice A n c], .agg #[.int .i64 IW, .int .i64 IH, .int .i64 IB, .string s], .agg #[.int .i64 ma, .int .i64 mb, .int .i64 mc, .int .i64 md, .int .i64 me, .int .i64 mf], .agg #[.int .i64 rw_, .int .i64 rh, .slice D m d]] W' fun ed w' => ∃ g ff, ed = .returned (.tuple #[.agg #[.int .i64 pw, .int .i64 ph, .slice (some ⟨g, 0, none⟩) n ff], .int .i64 0]) ∧ Pg w' (some ⟨g, 0, none⟩) n ff Y2 ∧ Below W'.heap.size W' w')) :
    Calls Try.prog 7 #[.agg #[.int .i64 IW, .int .i64 IH, .int .i64 IB, .string s], .agg #[.int .i64 ma, .int .i64 mb, .int .i64 mc, .int .i64 md, .int .i64 me, .int .i64 mf], .agg #[.int .i64 pw, .int .i64 ph, .slice A n c], .agg #[.int .i64 rw_, .int .i64 rh, .slice D m d], .int .i64 x, .int .i64 y] w fun e w' => e = .returned (.bool true) ∧ Below w.heap.size w w' := by
  have HR := Lib.hid hr
  clear hr
  have z1 : decide ((s.size : Int) > 20000) = false := by simp; omega
  have z1' : decide (20000 < (s.size : Int)) = false := by simp; omega
  rcases (show (decide (x > 20) = false ∧ decide (20 < x) = false) ∨ (decide (x > 20) = true ∧ decide (20 < x) = true ∧ decide (x ≤ 64) = false) by by_cases g : 20 < x <;> simp <;> omega) with ⟨zx, zx'⟩ | ⟨zx, zx', zx2⟩
  all_goals
    rcases (show (decide (y > 20) = false ∧ decide (20 < y) = false) ∨ (decide (y > 20) = true ∧ decide (20 < y) = true ∧ decide (y ≤ 64) = false) by by_cases g : 20 < y <;> simp <;> omega) with ⟨zy, zy'⟩ | ⟨zy, zy', zy2⟩
  all_goals
    clear h h0 h1
    have HHR := Lib.hid (fun W' => hregion_nil W')
    have HHP := Lib.hid (fun c d A D W' ha hb => hpage_same pw ph n c d A D Y2 Y2 W' ha hb (fun j hj => rfl))
    have HP := Lib.hid hp
    clear hp
    go_enter Try.func7, Try.ntmps7
    go_wp2_with fail
    have hst0 : Below w.heap.size w ((((w.alloc (.cells #[.int .i64 IW, .int .i64 IH, .int .i64 IB, .string s] 23)).alloc (.cells #[.int .i64 ma, .int .i64 mb, .int .i64 mc, .int .i64 md, .int .i64 me, .int .i64 mf] 25)).alloc (.cells #[.int .i64 pw, .int .i64 ph, .slice A n c] 46)).alloc (.cells #[.int .i64 rw_, .int .i64 rh, .slice D m d] 51)) := by (repeat' (first | exact Below.refl _ _ | exact Below.refl _ _ | refine balloc ?_ _ | refine Below.drew ?_ | refine below_drewN ?_ _ | refine bset ?_ (by first | omega | (simp <;> omega)) _))
    refine (known_any _).mono ?_
    rintro e_ w1 ⟨rfl, hb⟩
    have hst : Below w.heap.size w w1 := btrans hst0 hb
    have Ki := ((((Blk.new w 23 #[.int .i64 IW, .int .i64 IH, .int .i64 IB, .string s]).alloc (.cells #[.int .i64 ma, .int .i64 mb, .int .i64 mc, .int .i64 md, .int .i64 me, .int .i64 mf] 25)).alloc (.cells #[.int .i64 pw, .int .i64 ph, .slice A n c] 46)).alloc (.cells #[.int .i64 rw_, .int .i64 rh, .slice D m d] 51))
    have Km := (((Blk.new (w.alloc (.cells #[.int .i64 IW, .int .i64 IH, .int .i64 IB, .string s] 23)) 25 #[.int .i64 ma, .int .i64 mb, .int .i64 mc, .int .i64 md, .int .i64 me, .int .i64 mf]).alloc (.cells #[.int .i64 pw, .int .i64 ph, .slice A n c] 46)).alloc (.cells #[.int .i64 rw_, .int .i64 rh, .slice D m d] 51))
    have hz_Km : (w.alloc (.cells #[.int .i64 IW, .int .i64 IH, .int .i64 IB, .string s] 23)).heap.size = w.heap.size + 1 := by simp
    rw [hz_Km] at Km
    clear hz_Km
    have Kp := ((Blk.new ((w.alloc (.cells #[.int .i64 IW, .int .i64 IH, .int .i64 IB, .string s] 23)).alloc (.cells #[.int .i64 ma, .int .i64 mb, .int .i64 mc, .int .i64 md, .int .i64 me, .int .i64 mf] 25)) 46 #[.int .i64 pw, .int .i64 ph, .slice A n c]).alloc (.cells #[.int .i64 rw_, .int .i64 rh, .slice D m d] 51))
    have hz_Kp : ((w.alloc (.cells #[.int .i64 IW, .int .i64 IH, .int .i64 IB, .string s] 23)).alloc (.cells #[.int .i64 ma, .int .i64 mb, .int .i64 mc, .int .i64 md, .int .i64 me, .int .i64 mf] 25)).heap.size = w.heap.size + 1 + 1 := by simp
    rw [hz_Kp] at Kp
    clear hz_Kp
    have Kr := (Blk.new (((w.alloc (.cells #[.int .i64 IW, .int .i64 IH, .int .i64 IB, .string s] 23)).alloc (.cells #[.int .i64 ma, .int .i64 mb, .int .i64 mc, .int .i64 md, .int .i64 me, .int .i64 mf] 25)).alloc (.cells #[.int .i64 pw, .int .i64 ph, .slice A n c] 46)) 51 #[.int .i64 rw_, .int .i64 rh, .slice D m d])
    have hz_Kr : (((w.alloc (.cells #[.int .i64 IW, .int .i64 IH, .int .i64 IB, .string s] 23)).alloc (.cells #[.int .i64 ma, .int .i64 mb, .int .i64 mc, .int .i64 md, .int .i64 me, .int .i64 mf] 25)).alloc (.cells #[.int .i64 pw, .int .i64 ph, .slice A n c] 46)).heap.size = w.heap.size + 1 + 1 + 1 := by simp
    rw [hz_Kr] at Kr
    clear hz_Kr
    replace Ki := Ki.below hb Ki.lt
    replace Km := Km.below hb Km.lt
    replace Kp := Kp.below hb Kp.lt
    replace Kr := Kr.below hb Kr.lt
    have hbw : Below w.heap.size w w1 := hst
    replace HR := Lib.hid (HR.out.below hst)
    replace HP := Lib.hid (HP.out.below hst)
    clear hst hst0 hb 
    have lKi := Ki.lt
    have cKi0 := Ki.cell 0
    have cKi1 := Ki.cell 1
    have cKi2 := Ki.cell 2
    have cKi3 := Ki.cell 3
    have lKm := Km.lt
    have cKm0 := Km.cell 0
    have cKm1 := Km.cell 1
    have cKm2 := Km.cell 2
    have cKm3 := Km.cell 3
    have cKm4 := Km.cell 4
    have cKm5 := Km.cell 5
    have lKp := Kp.lt
    have cKp0 := Kp.cell 0
    have cKp1 := Kp.cell 1
    have cKp2 := Kp.cell 2
    have lKr := Kr.lt
    have cKr0 := Kr.cell 0
    have cKr1 := Kr.cell 1
    have cKr2 := Kr.cell 2
    simp only [List.getElem?_toArray, List.getElem?_cons_succ, List.getElem?_cons_zero] at cKi0 cKi1 cKi2 cKi3 cKm0 cKm1 cKm2 cKm3 cKm4 cKm5 cKp0 cKp1 cKp2 cKr0 cKr1 cKr2
    go_wp2_with fail
    have hst0 : Below w1.heap.size w1 w1 := by (repeat' (first | exact Below.refl _ _ | exact Below.refl _ _ | refine balloc ?_ _ | refine Below.drew ?_ | refine below_drewN ?_ _ | refine bset ?_ (by first | omega | (simp <;> omega)) _))
    refine (few_any pw ph rw_ rh n c m d A D L _ (HR.out.below hst0)).mono ?_
    rintro e_ w2 ⟨b, rfl, hb⟩
    have hst : Below w1.heap.size w1 w2 := btrans hst0 hb
    replace Ki := Ki.below hb Ki.lt
    replace Km := Km.below hb Km.lt
    replace Kp := Kp.below hb Kp.lt
    replace Kr := Kr.below hb Kr.lt
    replace hbw : Below w.heap.size w w2 := btrans hbw hst
    replace HR := Lib.hid (HR.out.below hst)
    replace HP := Lib.hid (HP.out.below hst)
    clear hst hst0 hb lKi cKi0 cKi1 cKi2 cKi3 lKm cKm0 cKm1 cKm2 cKm3 cKm4 cKm5 lKp cKp0 cKp1 cKp2 lKr cKr0 cKr1 cKr2
    have lKi := Ki.lt
    have cKi0 := Ki.cell 0
    have cKi1 := Ki.cell 1
    have cKi2 := Ki.cell 2
    have cKi3 := Ki.cell 3
    have lKm := Km.lt
    have cKm0 := Km.cell 0
    have cKm1 := Km.cell 1
    have cKm2 := Km.cell 2
    have cKm3 := Km.cell 3
    have cKm4 := Km.cell 4
    have cKm5 := Km.cell 5
    have lKp := Kp.lt
    have cKp0 := Kp.cell 0
    have cKp1 := Kp.cell 1
    have cKp2 := Kp.cell 2
    have lKr := Kr.lt
    have cKr0 := Kr.cell 0
    have cKr1 := Kr.cell 1
    have cKr2 := Kr.cell 2
    simp only [List.getElem?_toArray, List.getElem?_cons_succ, List.getElem?_cons_zero] at cKi0 cKi1 cKi2 cKi3 cKm0 cKm1 cKm2 cKm3 cKm4 cKm5 cKp0 cKp1 cKp2 cKr0 cKr1 cKr2
    rcases (show b = false ∨ b = true by cases b <;> simp) with h | h
    · subst h
      go_wp2_with fail
      go_ret
      exact ⟨rfl, hbw⟩
    subst h
    go_wp2_with fail
    have hst0 : Below w2.heap.size w2 w2 := by (repeat' (first | exact Below.refl _ _ | exact Below.refl _ _ | refine balloc ?_ _ | refine Below.drew ?_ | refine below_drewN ?_ _ | refine bset ?_ (by first | omega | (simp <;> omega)) _))
    refine (HRG.out _).mono ?_
    rintro e_ w3 ⟨rfl, hb⟩
    have hst : Below w2.heap.size w2 w3 := btrans hst0 hb
    replace Ki := Ki.below hb Ki.lt
    replace Km := Km.below hb Km.lt
    replace Kp := Kp.below hb Kp.lt
    replace Kr := Kr.below hb Kr.lt
    replace hbw : Below w.heap.size w w3 := btrans hbw hst
    replace HR := Lib.hid (HR.out.below hst)
    replace HP := Lib.hid (HP.out.below hst)
    clear hst hst0 hb lKi cKi0 cKi1 cKi2 cKi3 lKm cKm0 cKm1 cKm2 cKm3 cKm4 cKm5 lKp cKp0 cKp1 cKp2 lKr cKr0 cKr1 cKr2
    have lKi := Ki.lt
    have cKi0 := Ki.cell 0
    have cKi1 := Ki.cell 1
    have cKi2 := Ki.cell 2
    have cKi3 := Ki.cell 3
    have lKm := Km.lt
    have cKm0 := Km.cell 0
    have cKm1 := Km.cell 1
    have cKm2 := Km.cell 2
    have cKm3 := Km.cell 3
    have cKm4 := Km.cell 4
    have cKm5 := Km.cell 5
    have lKp := Kp.lt
    have cKp0 := Kp.cell 0
    have cKp1 := Kp.cell 1
    have cKp2 := Kp.cell 2
    have lKr := Kr.lt
    have cKr0 := Kr.cell 0
    have cKr1 := Kr.cell 1
    have cKr2 := Kr.cell 2
    simp only [List.getElem?_toArray, List.getElem?_cons_succ, List.getElem?_cons_zero] at cKi0 cKi1 cKi2 cKi3 cKm0 cKm1 cKm2 cKm3 cKm4 cKm5 cKp0 cKp1 cKp2 cKr0 cKr1 cKr2
    go_wp2_with fail
    have hst0 : Below w3.heap.size w3 (w3.alloc (.cells #[.int .i64 0, .int .i64 0, .slice none 0 0] 51)) := by (repeat' (first | exact Below.refl _ _ | exact Below.refl _ _ | refine balloc ?_ _ | refine Below.drew ?_ | refine below_drewN ?_ _ | refine bset ?_ (by first | omega | (simp <;> omega)) _))
    refine (HRR.out _).mono ?_
    rintro e_ w4 ⟨rfl, hb⟩
    have hst : Below w3.heap.size w3 w4 := btrans hst0 hb
    replace Ki := (Ki.alloc (.cells #[.int .i64 0, .int .i64 0, .slice none 0 0] 51))
    replace Km := (Km.alloc (.cells #[.int .i64 0, .int .i64 0, .slice none 0 0] 51))
    replace Kp := (Kp.alloc (.cells #[.int .i64 0, .int .i64 0, .slice none 0 0] 51))
    replace Kr := (Kr.alloc (.cells #[.int .i64 0, .int .i64 0, .slice none 0 0] 51))
    have Ka := (Blk.new w3 51 #[.int .i64 0, .int .i64 0, .slice none 0 0])
    replace Ki := Ki.below hb Ki.lt
    replace Km := Km.below hb Km.lt
    replace Kp := Kp.below hb Kp.lt
    replace Kr := Kr.below hb Kr.lt
    replace Ka := Ka.below hb Ka.lt
    replace hbw : Below w.heap.size w w4 := btrans hbw hst
    replace HR := Lib.hid (HR.out.below hst)
    replace HP := Lib.hid (HP.out.below hst)
    clear hst hst0 hb lKi cKi0 cKi1 cKi2 cKi3 lKm cKm0 cKm1 cKm2 cKm3 cKm4 cKm5 lKp cKp0 cKp1 cKp2 lKr cKr0 cKr1 cKr2
    have lKi := Ki.lt
    have cKi0 := Ki.cell 0
    have cKi1 := Ki.cell 1
    have cKi2 := Ki.cell 2
    have cKi3 := Ki.cell 3
    have lKm := Km.lt
    have cKm0 := Km.cell 0
    have cKm1 := Km.cell 1
    have cKm2 := Km.cell 2
    have cKm3 := Km.cell 3
    have cKm4 := Km.cell 4
    have cKm5 := Km.cell 5
    have lKp := Kp.lt
    have cKp0 := Kp.cell 0
    have cKp1 := Kp.cell 1
    have cKp2 := Kp.cell 2
    have lKr := Kr.lt
    have cKr0 := Kr.cell 0
    have cKr1 := Kr.cell 1
    have cKr2 := Kr.cell 2
    have lKa := Ka.lt
    have cKa0 := Ka.cell 0
    have cKa1 := Ka.cell 1
    have cKa2 := Ka.cell 2
    simp only [List.getElem?_toArray, List.getElem?_cons_succ, List.getElem?_cons_zero] at cKi0 cKi1 cKi2 cKi3 cKm0 cKm1 cKm2 cKm3 cKm4 cKm5 cKp0 cKp1 cKp2 cKr0 cKr1 cKr2 cKa0 cKa1 cKa2
    go_wp2_with fail
    have hst0 : Below w4.heap.size w4 (w4.alloc (.cells #[.int .i64 0, .int .i64 0, .slice none 0 0] 51)) := by (repeat' (first | exact Below.refl _ _ | exact Below.refl _ _ | refine balloc ?_ _ | refine Below.drew ?_ | refine below_drewN ?_ _ | refine bset ?_ (by first | omega | (simp <;> omega)) _))
    refine (HPT.out _ (HP.out.below hst0) (HR.out.below hst0)).mono ?_
    rintro e_ w5 ⟨gc, fc, rfl, hC1, hb⟩
    have hst : Below w4.heap.size w4 w5 := btrans hst0 hb
    replace Ki := (Ki.alloc (.cells #[.int .i64 0, .int .i64 0, .slice none 0 0] 51))
    replace Km := (Km.alloc (.cells #[.int .i64 0, .int .i64 0, .slice none 0 0] 51))
    replace Kp := (Kp.alloc (.cells #[.int .i64 0, .int .i64 0, .slice none 0 0] 51))
    replace Kr := (Kr.alloc (.cells #[.int .i64 0, .int .i64 0, .slice none 0 0] 51))
    replace Ka := (Ka.alloc (.cells #[.int .i64 0, .int .i64 0, .slice none 0 0] 51))
    have Kb := (Blk.new w4 51 #[.int .i64 0, .int .i64 0, .slice none 0 0])
    replace Ki := Ki.below hb Ki.lt
    replace Km := Km.below hb Km.lt
    replace Kp := Kp.below hb Kp.lt
    replace Kr := Kr.below hb Kr.lt
    replace Ka := Ka.below hb Ka.lt
    replace Kb := Kb.below hb Kb.lt
    replace hbw : Below w.heap.size w w5 := btrans hbw hst
    replace HR := Lib.hid (HR.out.below hst)
    replace HP := Lib.hid (HP.out.below hst)
    clear hst hst0 hb lKi cKi0 cKi1 cKi2 cKi3 lKm cKm0 cKm1 cKm2 cKm3 cKm4 cKm5 lKp cKp0 cKp1 cKp2 lKr cKr0 cKr1 cKr2 lKa cKa0 cKa1 cKa2
    have HhC1 := Lib.hid hC1
    clear hC1
    have lKi := Ki.lt
    have cKi0 := Ki.cell 0
    have cKi1 := Ki.cell 1
    have cKi2 := Ki.cell 2
    have cKi3 := Ki.cell 3
    have lKm := Km.lt
    have cKm0 := Km.cell 0
    have cKm1 := Km.cell 1
    have cKm2 := Km.cell 2
    have cKm3 := Km.cell 3
    have cKm4 := Km.cell 4
    have cKm5 := Km.cell 5
    have lKp := Kp.lt
    have cKp0 := Kp.cell 0
    have cKp1 := Kp.cell 1
    have cKp2 := Kp.cell 2
    have lKr := Kr.lt
    have cKr0 := Kr.cell 0
    have cKr1 := Kr.cell 1
    have cKr2 := Kr.cell 2
    have lKa := Ka.lt
    have cKa0 := Ka.cell 0
    have cKa1 := Ka.cell 1
    have cKa2 := Ka.cell 2
    have lKb := Kb.lt
    have cKb0 := Kb.cell 0
    have cKb1 := Kb.cell 1
    have cKb2 := Kb.cell 2
    simp only [List.getElem?_toArray, List.getElem?_cons_succ, List.getElem?_cons_zero] at cKi0 cKi1 cKi2 cKi3 cKm0 cKm1 cKm2 cKm3 cKm4 cKm5 cKp0 cKp1 cKp2 cKr0 cKr1 cKr2 cKa0 cKa1 cKa2 cKb0 cKb1 cKb2
    go_wp2_with fail
    have hst0 : Below w5.heap.size w5 (w5.alloc (.cells #[.int .i64 pw, .int .i64 ph, .slice (some ⟨gc, 0, none⟩) n fc] 46)) := by (repeat' (first | exact Below.refl _ _ | exact Below.refl _ _ | refine balloc ?_ _ | refine Below.drew ?_ | refine below_drewN ?_ _ | refine bset ?_ (by first | omega | (simp <;> omega)) _))
    refine (HRP.out _ (HP.out.below hst0) (HR.out.below hst0)).mono ?_
    rintro e_ w6 ⟨gd, fd, rfl, hD1, hb⟩
    have hst : Below w5.heap.size w5 w6 := btrans hst0 hb
    replace Ki := (Ki.alloc (.cells #[.int .i64 pw, .int .i64 ph, .slice (some ⟨gc, 0, none⟩) n fc] 46))
    replace Km := (Km.alloc (.cells #[.int .i64 pw, .int .i64 ph, .slice (some ⟨gc, 0, none⟩) n fc] 46))
    replace Kp := (Kp.alloc (.cells #[.int .i64 pw, .int .i64 ph, .slice (some ⟨gc, 0, none⟩) n fc] 46))
    replace Kr := (Kr.alloc (.cells #[.int .i64 pw, .int .i64 ph, .slice (some ⟨gc, 0, none⟩) n fc] 46))
    replace Ka := (Ka.alloc (.cells #[.int .i64 pw, .int .i64 ph, .slice (some ⟨gc, 0, none⟩) n fc] 46))
    replace Kb := (Kb.alloc (.cells #[.int .i64 pw, .int .i64 ph, .slice (some ⟨gc, 0, none⟩) n fc] 46))
    have Kc := (Blk.new w5 46 #[.int .i64 pw, .int .i64 ph, .slice (some ⟨gc, 0, none⟩) n fc])
    replace Ki := Ki.below hb Ki.lt
    replace Km := Km.below hb Km.lt
    replace Kp := Kp.below hb Kp.lt
    replace Kr := Kr.below hb Kr.lt
    replace Ka := Ka.below hb Ka.lt
    replace Kb := Kb.below hb Kb.lt
    replace Kc := Kc.below hb Kc.lt
    replace hbw : Below w.heap.size w w6 := btrans hbw hst
    replace HR := Lib.hid (HR.out.below hst)
    replace HP := Lib.hid (HP.out.below hst)
    replace HhC1 := Lib.hid (HhC1.out.below hst)
    clear hst hst0 hb lKi cKi0 cKi1 cKi2 cKi3 lKm cKm0 cKm1 cKm2 cKm3 cKm4 cKm5 lKp cKp0 cKp1 cKp2 lKr cKr0 cKr1 cKr2 lKa cKa0 cKa1 cKa2 lKb cKb0 cKb1 cKb2
    have HhD1 := Lib.hid hD1
    clear hD1
    have lKi := Ki.lt
    have cKi0 := Ki.cell 0
    have cKi1 := Ki.cell 1
    have cKi2 := Ki.cell 2
    have cKi3 := Ki.cell 3
    have lKm := Km.lt
    have cKm0 := Km.cell 0
    have cKm1 := Km.cell 1
    have cKm2 := Km.cell 2
    have cKm3 := Km.cell 3
    have cKm4 := Km.cell 4
    have cKm5 := Km.cell 5
    have lKp := Kp.lt
    have cKp0 := Kp.cell 0
    have cKp1 := Kp.cell 1
    have cKp2 := Kp.cell 2
    have lKr := Kr.lt
    have cKr0 := Kr.cell 0
    have cKr1 := Kr.cell 1
    have cKr2 := Kr.cell 2
    have lKa := Ka.lt
    have cKa0 := Ka.cell 0
    have cKa1 := Ka.cell 1
    have cKa2 := Ka.cell 2
    have lKb := Kb.lt
    have cKb0 := Kb.cell 0
    have cKb1 := Kb.cell 1
    have cKb2 := Kb.cell 2
    have lKc := Kc.lt
    have cKc0 := Kc.cell 0
    have cKc1 := Kc.cell 1
    have cKc2 := Kc.cell 2
    simp only [List.getElem?_toArray, List.getElem?_cons_succ, List.getElem?_cons_zero] at cKi0 cKi1 cKi2 cKi3 cKm0 cKm1 cKm2 cKm3 cKm4 cKm5 cKp0 cKp1 cKp2 cKr0 cKr1 cKr2 cKa0 cKa1 cKa2 cKb0 cKb1 cKb2 cKc0 cKc1 cKc2
    go_wp2_with fail
    have hst0 : Below w6.heap.size w6 (w6.alloc (.cells #[.int .i64 pw, .int .i64 ph, .slice (some ⟨gd, 0, none⟩) n fd] 46)) := by (repeat' (first | exact Below.refl _ _ | exact Below.refl _ _ | refine balloc ?_ _ | refine Below.drew ?_ | refine below_drewN ?_ _ | refine bset ?_ (by first | omega | (simp <;> omega)) _))
    refine (HHR.out _).mono ?_
    rintro e_ w7 ⟨rfl, hb⟩
    have hst : Below w6.heap.size w6 w7 := btrans hst0 hb
    replace Ki := (Ki.alloc (.cells #[.int .i64 pw, .int .i64 ph, .slice (some ⟨gd, 0, none⟩) n fd] 46))
    replace Km := (Km.alloc (.cells #[.int .i64 pw, .int .i64 ph, .slice (some ⟨gd, 0, none⟩) n fd] 46))
    replace Kp := (Kp.alloc (.cells #[.int .i64 pw, .int .i64 ph, .slice (some ⟨gd, 0, none⟩) n fd] 46))
    replace Kr := (Kr.alloc (.cells #[.int .i64 pw, .int .i64 ph, .slice (some ⟨gd, 0, none⟩) n fd] 46))
    replace Ka := (Ka.alloc (.cells #[.int .i64 pw, .int .i64 ph, .slice (some ⟨gd, 0, none⟩) n fd] 46))
    replace Kb := (Kb.alloc (.cells #[.int .i64 pw, .int .i64 ph, .slice (some ⟨gd, 0, none⟩) n fd] 46))
    replace Kc := (Kc.alloc (.cells #[.int .i64 pw, .int .i64 ph, .slice (some ⟨gd, 0, none⟩) n fd] 46))
    have Kd := (Blk.new w6 46 #[.int .i64 pw, .int .i64 ph, .slice (some ⟨gd, 0, none⟩) n fd])
    replace Ki := Ki.below hb Ki.lt
    replace Km := Km.below hb Km.lt
    replace Kp := Kp.below hb Kp.lt
    replace Kr := Kr.below hb Kr.lt
    replace Ka := Ka.below hb Ka.lt
    replace Kb := Kb.below hb Kb.lt
    replace Kc := Kc.below hb Kc.lt
    replace Kd := Kd.below hb Kd.lt
    replace hbw : Below w.heap.size w w7 := btrans hbw hst
    replace HR := Lib.hid (HR.out.below hst)
    replace HP := Lib.hid (HP.out.below hst)
    replace HhC1 := Lib.hid (HhC1.out.below hst)
    replace HhD1 := Lib.hid (HhD1.out.below hst)
    clear hst hst0 hb lKi cKi0 cKi1 cKi2 cKi3 lKm cKm0 cKm1 cKm2 cKm3 cKm4 cKm5 lKp cKp0 cKp1 cKp2 lKr cKr0 cKr1 cKr2 lKa cKa0 cKa1 cKa2 lKb cKb0 cKb1 cKb2 lKc cKc0 cKc1 cKc2 Ki Km Kp Kr
    have lKa := Ka.lt
    have cKa0 := Ka.cell 0
    have cKa1 := Ka.cell 1
    have cKa2 := Ka.cell 2
    have lKb := Kb.lt
    have cKb0 := Kb.cell 0
    have cKb1 := Kb.cell 1
    have cKb2 := Kb.cell 2
    have lKc := Kc.lt
    have cKc0 := Kc.cell 0
    have cKc1 := Kc.cell 1
    have cKc2 := Kc.cell 2
    have lKd := Kd.lt
    have cKd0 := Kd.cell 0
    have cKd1 := Kd.cell 1
    have cKd2 := Kd.cell 2
    simp only [List.getElem?_toArray, List.getElem?_cons_succ, List.getElem?_cons_zero] at cKa0 cKa1 cKa2 cKb0 cKb1 cKb2 cKc0 cKc1 cKc2 cKd0 cKd1 cKd2
    go_wp2_with fail
    have hst0 : Below w7.heap.size w7 w7 := by (repeat' (first | exact Below.refl _ _ | exact Below.refl _ _ | refine balloc ?_ _ | refine Below.drew ?_ | refine below_drewN ?_ _ | refine bset ?_ (by first | omega | (simp <;> omega)) _))
    refine (HHP.out _ _ _ _ _ (HhC1.out.below hst0) (HhD1.out.below hst0)).mono ?_
    rintro e_ w8 ⟨rfl, hb⟩
    have hst : Below w7.heap.size w7 w8 := btrans hst0 hb
    replace Ka := Ka.below hb Ka.lt
    replace Kb := Kb.below hb Kb.lt
    replace Kc := Kc.below hb Kc.lt
    replace Kd := Kd.below hb Kd.lt
    replace hbw : Below w.heap.size w w8 := btrans hbw hst
    replace HR := Lib.hid (HR.out.below hst)
    replace HP := Lib.hid (HP.out.below hst)
    replace HhC1 := Lib.hid (HhC1.out.below hst)
    replace HhD1 := Lib.hid (HhD1.out.below hst)
    clear hst hst0 hb lKa cKa0 cKa1 cKa2 lKb cKb0 cKb1 cKb2 lKc cKc0 cKc1 cKc2 lKd cKd0 cKd1 cKd2
    have lKa := Ka.lt
    have cKa0 := Ka.cell 0
    have cKa1 := Ka.cell 1
    have cKa2 := Ka.cell 2
    have lKb := Kb.lt
    have cKb0 := Kb.cell 0
    have cKb1 := Kb.cell 1
    have cKb2 := Kb.cell 2
    have lKc := Kc.lt
    have cKc0 := Kc.cell 0
    have cKc1 := Kc.cell 1
    have cKc2 := Kc.cell 2
    have lKd := Kd.lt
    have cKd0 := Kd.cell 0
    have cKd1 := Kd.cell 1
    have cKd2 := Kd.cell 2
    simp only [List.getElem?_toArray, List.getElem?_cons_succ, List.getElem?_cons_zero] at cKa0 cKa1 cKa2 cKb0 cKb1 cKb2 cKc0 cKc1 cKc2 cKd0 cKd1 cKd2
    go_wp2_with fail
    go_ret
    exact ⟨by first | rfl | simp, by (repeat' (first | refine bset ?_ (by first | omega | (simp <;> omega)) _ | refine balloc ?_ _ | refine Below.drew ?_ | refine below_drewN ?_ _ | exact hbw | exact Below.refl _ _))⟩
set_option maxRecDepth 100000 in
set_option maxHeartbeats 3200000 in
theorem paints_ok_err (IW IH IB ma mb mc md me mf : Int) (s : ByteArray) (pw ph rw_ rh : Int) (n c m d : Nat) (A D : Option Addr) (L : Nat → List (Int × Int)) (x y : Int) (w : World) (hr : rg.Rows w D m d L) (h : (s.size : Int) ≤ 20000) (h0 : ¬ (20 < x ∧ x ≤ 64)) (h1 : ¬ (20 < y ∧ y ≤ 64))
    (xn yn : Nat) (Q : Nat → Nat → Bool) (hxn : x = (xn : Int)) (hyn : y = (yn : Int)) (hy1 : 1 ≤ yn ∧ yn ≤ 64) (HRG : Hid (∀ W', Calls Try.prog 38 #[.agg #[.int .i64 IW, .int .i64 IH, .int .i64 IB, .string s], .agg #[.int .i64 ma, .int .i64 mb, .int .i64 mc, .int .i64 md, .int .i64 me, .int .i64 mf], .int .i64 x, .int .i64 y] W' fun ed w' => ∃ g dd, ed = .returned (.tuple #[.agg #[.int .i64 x, .int .i64 y, .slice (some ⟨g, 0, none⟩) yn dd], .int .i64 0]) ∧ rg.Rows w' (some ⟨g, 0, none⟩) yn dd (rowsOf xn Q) ∧ Below W'.heap.size W' w')) (HRR : Hid (∀ W', Calls Try.prog 39 #[.agg #[.int .i64 IW, .int .i64 IH, .int .i64 IB, .string s], .agg #[.int .i64 ma, .int .i64 mb, .int .i64 mc, .int .i64 md, .int .i64 me, .int .i64 mf], .int .i64 x, .int .i64 y] W' fun ed w' => ∃ g dd, ed = .returned (.tuple #[.agg #[.int .i64 x, .int .i64 y, .slice (some ⟨g, 0, none⟩) yn dd], .int .i64 0]) ∧ rg.Rows w' (some ⟨g, 0, none⟩) yn dd (rowsOf xn Q) ∧ Below W'.heap.size W' w'))
    (ep : Int) (HPT : Hid (∀ W', rg.Rows W' D m d L → Calls Try.prog 31 #[.agg #[.int .i64 pw, .int .i64 ph, .slice A n c], .agg #[.int .i64 IW, .int .i64 IH, .int .i64 IB, .string s], .agg #[.int .i64 ma, .int .i64 mb, .int .i64 mc, .int .i64 md, .int .i64 me, .int .i64 mf], .agg #[.int .i64 rw_, .int .i64 rh, .slice D m d]] W' fun ed w' => ed = .returned (.tuple #[.agg #[.int .i64 0, .int .i64 0, .slice none 0 0], .int .i64 ep]) ∧ Below W'.heap.size W' w')) (HRP : Hid (∀ W', rg.Rows W' D m d L → Calls Try.prog 40 #[.agg #[.int .i64 pw, .int .i64 ph, .slice A n c], .agg #[.int .i64 IW, .int .i64 IH, .int .i64 IB, .string s], .agg #[.int .i64 ma, .int .i64 mb, .int .i64 mc, .int .i64 md, .int .i64 me, .int .i64 mf], .agg #[.int .i64 rw_, .int .i64 rh, .slice D m d]] W' fun ed w' => ed = .returned (.tuple #[.agg #[.int .i64 0, .int .i64 0, .slice none 0 0], .int .i64 ep]) ∧ Below W'.heap.size W' w')) :
    Calls Try.prog 7 #[.agg #[.int .i64 IW, .int .i64 IH, .int .i64 IB, .string s], .agg #[.int .i64 ma, .int .i64 mb, .int .i64 mc, .int .i64 md, .int .i64 me, .int .i64 mf], .agg #[.int .i64 pw, .int .i64 ph, .slice A n c], .agg #[.int .i64 rw_, .int .i64 rh, .slice D m d], .int .i64 x, .int .i64 y] w fun e w' => e = .returned (.bool true) ∧ Below w.heap.size w w' := by
  have HR := Lib.hid hr
  clear hr
  have z1 : decide ((s.size : Int) > 20000) = false := by simp; omega
  have z1' : decide (20000 < (s.size : Int)) = false := by simp; omega
  rcases (show (decide (x > 20) = false ∧ decide (20 < x) = false) ∨ (decide (x > 20) = true ∧ decide (20 < x) = true ∧ decide (x ≤ 64) = false) by by_cases g : 20 < x <;> simp <;> omega) with ⟨zx, zx'⟩ | ⟨zx, zx', zx2⟩
  all_goals
    rcases (show (decide (y > 20) = false ∧ decide (20 < y) = false) ∨ (decide (y > 20) = true ∧ decide (20 < y) = true ∧ decide (y ≤ 64) = false) by by_cases g : 20 < y <;> simp <;> omega) with ⟨zy, zy'⟩ | ⟨zy, zy', zy2⟩
  all_goals
    clear h h0 h1
    have HHR := Lib.hid (fun c d A D W' ha hb => hxn ▸ hyn ▸ hregion_same xn yn c d A D Q Q W' hy1 ha hb (fun j hj i hi => rfl))
    clear hxn hyn hy1
    have HHP := Lib.hid (fun W' => hpage_nil W')
    go_enter Try.func7, Try.ntmps7
    go_wp2_with fail
    have hst0 : Below w.heap.size w ((((w.alloc (.cells #[.int .i64 IW, .int .i64 IH, .int .i64 IB, .string s] 23)).alloc (.cells #[.int .i64 ma, .int .i64 mb, .int .i64 mc, .int .i64 md, .int .i64 me, .int .i64 mf] 25)).alloc (.cells #[.int .i64 pw, .int .i64 ph, .slice A n c] 46)).alloc (.cells #[.int .i64 rw_, .int .i64 rh, .slice D m d] 51)) := by (repeat' (first | exact Below.refl _ _ | exact Below.refl _ _ | refine balloc ?_ _ | refine Below.drew ?_ | refine below_drewN ?_ _ | refine bset ?_ (by first | omega | (simp <;> omega)) _))
    refine (known_any _).mono ?_
    rintro e_ w1 ⟨rfl, hb⟩
    have hst : Below w.heap.size w w1 := btrans hst0 hb
    have Ki := ((((Blk.new w 23 #[.int .i64 IW, .int .i64 IH, .int .i64 IB, .string s]).alloc (.cells #[.int .i64 ma, .int .i64 mb, .int .i64 mc, .int .i64 md, .int .i64 me, .int .i64 mf] 25)).alloc (.cells #[.int .i64 pw, .int .i64 ph, .slice A n c] 46)).alloc (.cells #[.int .i64 rw_, .int .i64 rh, .slice D m d] 51))
    have Km := (((Blk.new (w.alloc (.cells #[.int .i64 IW, .int .i64 IH, .int .i64 IB, .string s] 23)) 25 #[.int .i64 ma, .int .i64 mb, .int .i64 mc, .int .i64 md, .int .i64 me, .int .i64 mf]).alloc (.cells #[.int .i64 pw, .int .i64 ph, .slice A n c] 46)).alloc (.cells #[.int .i64 rw_, .int .i64 rh, .slice D m d] 51))
    have hz_Km : (w.alloc (.cells #[.int .i64 IW, .int .i64 IH, .int .i64 IB, .string s] 23)).heap.size = w.heap.size + 1 := by simp
    rw [hz_Km] at Km
    clear hz_Km
    have Kp := ((Blk.new ((w.alloc (.cells #[.int .i64 IW, .int .i64 IH, .int .i64 IB, .string s] 23)).alloc (.cells #[.int .i64 ma, .int .i64 mb, .int .i64 mc, .int .i64 md, .int .i64 me, .int .i64 mf] 25)) 46 #[.int .i64 pw, .int .i64 ph, .slice A n c]).alloc (.cells #[.int .i64 rw_, .int .i64 rh, .slice D m d] 51))
    have hz_Kp : ((w.alloc (.cells #[.int .i64 IW, .int .i64 IH, .int .i64 IB, .string s] 23)).alloc (.cells #[.int .i64 ma, .int .i64 mb, .int .i64 mc, .int .i64 md, .int .i64 me, .int .i64 mf] 25)).heap.size = w.heap.size + 1 + 1 := by simp
    rw [hz_Kp] at Kp
    clear hz_Kp
    have Kr := (Blk.new (((w.alloc (.cells #[.int .i64 IW, .int .i64 IH, .int .i64 IB, .string s] 23)).alloc (.cells #[.int .i64 ma, .int .i64 mb, .int .i64 mc, .int .i64 md, .int .i64 me, .int .i64 mf] 25)).alloc (.cells #[.int .i64 pw, .int .i64 ph, .slice A n c] 46)) 51 #[.int .i64 rw_, .int .i64 rh, .slice D m d])
    have hz_Kr : (((w.alloc (.cells #[.int .i64 IW, .int .i64 IH, .int .i64 IB, .string s] 23)).alloc (.cells #[.int .i64 ma, .int .i64 mb, .int .i64 mc, .int .i64 md, .int .i64 me, .int .i64 mf] 25)).alloc (.cells #[.int .i64 pw, .int .i64 ph, .slice A n c] 46)).heap.size = w.heap.size + 1 + 1 + 1 := by simp
    rw [hz_Kr] at Kr
    clear hz_Kr
    replace Ki := Ki.below hb Ki.lt
    replace Km := Km.below hb Km.lt
    replace Kp := Kp.below hb Kp.lt
    replace Kr := Kr.below hb Kr.lt
    have hbw : Below w.heap.size w w1 := hst
    replace HR := Lib.hid (HR.out.below hst)
    clear hst hst0 hb 
    have lKi := Ki.lt
    have cKi0 := Ki.cell 0
    have cKi1 := Ki.cell 1
    have cKi2 := Ki.cell 2
    have cKi3 := Ki.cell 3
    have lKm := Km.lt
    have cKm0 := Km.cell 0
    have cKm1 := Km.cell 1
    have cKm2 := Km.cell 2
    have cKm3 := Km.cell 3
    have cKm4 := Km.cell 4
    have cKm5 := Km.cell 5
    have lKp := Kp.lt
    have cKp0 := Kp.cell 0
    have cKp1 := Kp.cell 1
    have cKp2 := Kp.cell 2
    have lKr := Kr.lt
    have cKr0 := Kr.cell 0
    have cKr1 := Kr.cell 1
    have cKr2 := Kr.cell 2
    simp only [List.getElem?_toArray, List.getElem?_cons_succ, List.getElem?_cons_zero] at cKi0 cKi1 cKi2 cKi3 cKm0 cKm1 cKm2 cKm3 cKm4 cKm5 cKp0 cKp1 cKp2 cKr0 cKr1 cKr2
    go_wp2_with fail
    have hst0 : Below w1.heap.size w1 w1 := by (repeat' (first | exact Below.refl _ _ | exact Below.refl _ _ | refine balloc ?_ _ | refine Below.drew ?_ | refine below_drewN ?_ _ | refine bset ?_ (by first | omega | (simp <;> omega)) _))
    refine (few_any pw ph rw_ rh n c m d A D L _ (HR.out.below hst0)).mono ?_
    rintro e_ w2 ⟨b, rfl, hb⟩
    have hst : Below w1.heap.size w1 w2 := btrans hst0 hb
    replace Ki := Ki.below hb Ki.lt
    replace Km := Km.below hb Km.lt
    replace Kp := Kp.below hb Kp.lt
    replace Kr := Kr.below hb Kr.lt
    replace hbw : Below w.heap.size w w2 := btrans hbw hst
    replace HR := Lib.hid (HR.out.below hst)
    clear hst hst0 hb lKi cKi0 cKi1 cKi2 cKi3 lKm cKm0 cKm1 cKm2 cKm3 cKm4 cKm5 lKp cKp0 cKp1 cKp2 lKr cKr0 cKr1 cKr2
    have lKi := Ki.lt
    have cKi0 := Ki.cell 0
    have cKi1 := Ki.cell 1
    have cKi2 := Ki.cell 2
    have cKi3 := Ki.cell 3
    have lKm := Km.lt
    have cKm0 := Km.cell 0
    have cKm1 := Km.cell 1
    have cKm2 := Km.cell 2
    have cKm3 := Km.cell 3
    have cKm4 := Km.cell 4
    have cKm5 := Km.cell 5
    have lKp := Kp.lt
    have cKp0 := Kp.cell 0
    have cKp1 := Kp.cell 1
    have cKp2 := Kp.cell 2
    have lKr := Kr.lt
    have cKr0 := Kr.cell 0
    have cKr1 := Kr.cell 1
    have cKr2 := Kr.cell 2
    simp only [List.getElem?_toArray, List.getElem?_cons_succ, List.getElem?_cons_zero] at cKi0 cKi1 cKi2 cKi3 cKm0 cKm1 cKm2 cKm3 cKm4 cKm5 cKp0 cKp1 cKp2 cKr0 cKr1 cKr2
    rcases (show b = false ∨ b = true by cases b <;> simp) with h | h
    · subst h
      go_wp2_with fail
      go_ret
      exact ⟨rfl, hbw⟩
    subst h
    go_wp2_with fail
    have hst0 : Below w2.heap.size w2 w2 := by (repeat' (first | exact Below.refl _ _ | exact Below.refl _ _ | refine balloc ?_ _ | refine Below.drew ?_ | refine below_drewN ?_ _ | refine bset ?_ (by first | omega | (simp <;> omega)) _))
    refine (HRG.out _).mono ?_
    rintro e_ w3 ⟨ga, da, rfl, hA1, hb⟩
    have hst : Below w2.heap.size w2 w3 := btrans hst0 hb
    replace Ki := Ki.below hb Ki.lt
    replace Km := Km.below hb Km.lt
    replace Kp := Kp.below hb Kp.lt
    replace Kr := Kr.below hb Kr.lt
    replace hbw : Below w.heap.size w w3 := btrans hbw hst
    replace HR := Lib.hid (HR.out.below hst)
    clear hst hst0 hb lKi cKi0 cKi1 cKi2 cKi3 lKm cKm0 cKm1 cKm2 cKm3 cKm4 cKm5 lKp cKp0 cKp1 cKp2 lKr cKr0 cKr1 cKr2
    have HhA1 := Lib.hid hA1
    clear hA1
    have lKi := Ki.lt
    have cKi0 := Ki.cell 0
    have cKi1 := Ki.cell 1
    have cKi2 := Ki.cell 2
    have cKi3 := Ki.cell 3
    have lKm := Km.lt
    have cKm0 := Km.cell 0
    have cKm1 := Km.cell 1
    have cKm2 := Km.cell 2
    have cKm3 := Km.cell 3
    have cKm4 := Km.cell 4
    have cKm5 := Km.cell 5
    have lKp := Kp.lt
    have cKp0 := Kp.cell 0
    have cKp1 := Kp.cell 1
    have cKp2 := Kp.cell 2
    have lKr := Kr.lt
    have cKr0 := Kr.cell 0
    have cKr1 := Kr.cell 1
    have cKr2 := Kr.cell 2
    simp only [List.getElem?_toArray, List.getElem?_cons_succ, List.getElem?_cons_zero] at cKi0 cKi1 cKi2 cKi3 cKm0 cKm1 cKm2 cKm3 cKm4 cKm5 cKp0 cKp1 cKp2 cKr0 cKr1 cKr2
    go_wp2_with fail
    have hst0 : Below w3.heap.size w3 (w3.alloc (.cells #[.int .i64 x, .int .i64 y, .slice (some ⟨ga, 0, none⟩) yn da] 51)) := by (repeat' (first | exact Below.refl _ _ | exact Below.refl _ _ | refine balloc ?_ _ | refine Below.drew ?_ | refine below_drewN ?_ _ | refine bset ?_ (by first | omega | (simp <;> omega)) _))
    refine (HRR.out _).mono ?_
    rintro e_ w4 ⟨gb, db, rfl, hB1, hb⟩
    have hst : Below w3.heap.size w3 w4 := btrans hst0 hb
    replace Ki := (Ki.alloc (.cells #[.int .i64 x, .int .i64 y, .slice (some ⟨ga, 0, none⟩) yn da] 51))
    replace Km := (Km.alloc (.cells #[.int .i64 x, .int .i64 y, .slice (some ⟨ga, 0, none⟩) yn da] 51))
    replace Kp := (Kp.alloc (.cells #[.int .i64 x, .int .i64 y, .slice (some ⟨ga, 0, none⟩) yn da] 51))
    replace Kr := (Kr.alloc (.cells #[.int .i64 x, .int .i64 y, .slice (some ⟨ga, 0, none⟩) yn da] 51))
    have Ka := (Blk.new w3 51 #[.int .i64 x, .int .i64 y, .slice (some ⟨ga, 0, none⟩) yn da])
    replace Ki := Ki.below hb Ki.lt
    replace Km := Km.below hb Km.lt
    replace Kp := Kp.below hb Kp.lt
    replace Kr := Kr.below hb Kr.lt
    replace Ka := Ka.below hb Ka.lt
    replace hbw : Below w.heap.size w w4 := btrans hbw hst
    replace HR := Lib.hid (HR.out.below hst)
    replace HhA1 := Lib.hid (HhA1.out.below hst)
    clear hst hst0 hb lKi cKi0 cKi1 cKi2 cKi3 lKm cKm0 cKm1 cKm2 cKm3 cKm4 cKm5 lKp cKp0 cKp1 cKp2 lKr cKr0 cKr1 cKr2
    have HhB1 := Lib.hid hB1
    clear hB1
    have lKi := Ki.lt
    have cKi0 := Ki.cell 0
    have cKi1 := Ki.cell 1
    have cKi2 := Ki.cell 2
    have cKi3 := Ki.cell 3
    have lKm := Km.lt
    have cKm0 := Km.cell 0
    have cKm1 := Km.cell 1
    have cKm2 := Km.cell 2
    have cKm3 := Km.cell 3
    have cKm4 := Km.cell 4
    have cKm5 := Km.cell 5
    have lKp := Kp.lt
    have cKp0 := Kp.cell 0
    have cKp1 := Kp.cell 1
    have cKp2 := Kp.cell 2
    have lKr := Kr.lt
    have cKr0 := Kr.cell 0
    have cKr1 := Kr.cell 1
    have cKr2 := Kr.cell 2
    have lKa := Ka.lt
    have cKa0 := Ka.cell 0
    have cKa1 := Ka.cell 1
    have cKa2 := Ka.cell 2
    simp only [List.getElem?_toArray, List.getElem?_cons_succ, List.getElem?_cons_zero] at cKi0 cKi1 cKi2 cKi3 cKm0 cKm1 cKm2 cKm3 cKm4 cKm5 cKp0 cKp1 cKp2 cKr0 cKr1 cKr2 cKa0 cKa1 cKa2
    go_wp2_with fail
    have hst0 : Below w4.heap.size w4 (w4.alloc (.cells #[.int .i64 x, .int .i64 y, .slice (some ⟨gb, 0, none⟩) yn db] 51)) := by (repeat' (first | exact Below.refl _ _ | exact Below.refl _ _ | refine balloc ?_ _ | refine Below.drew ?_ | refine below_drewN ?_ _ | refine bset ?_ (by first | omega | (simp <;> omega)) _))
    refine (HPT.out _ (HR.out.below hst0)).mono ?_
    rintro e_ w5 ⟨rfl, hb⟩
    have hst : Below w4.heap.size w4 w5 := btrans hst0 hb
    replace Ki := (Ki.alloc (.cells #[.int .i64 x, .int .i64 y, .slice (some ⟨gb, 0, none⟩) yn db] 51))
    replace Km := (Km.alloc (.cells #[.int .i64 x, .int .i64 y, .slice (some ⟨gb, 0, none⟩) yn db] 51))
    replace Kp := (Kp.alloc (.cells #[.int .i64 x, .int .i64 y, .slice (some ⟨gb, 0, none⟩) yn db] 51))
    replace Kr := (Kr.alloc (.cells #[.int .i64 x, .int .i64 y, .slice (some ⟨gb, 0, none⟩) yn db] 51))
    replace Ka := (Ka.alloc (.cells #[.int .i64 x, .int .i64 y, .slice (some ⟨gb, 0, none⟩) yn db] 51))
    have Kb := (Blk.new w4 51 #[.int .i64 x, .int .i64 y, .slice (some ⟨gb, 0, none⟩) yn db])
    replace Ki := Ki.below hb Ki.lt
    replace Km := Km.below hb Km.lt
    replace Kp := Kp.below hb Kp.lt
    replace Kr := Kr.below hb Kr.lt
    replace Ka := Ka.below hb Ka.lt
    replace Kb := Kb.below hb Kb.lt
    replace hbw : Below w.heap.size w w5 := btrans hbw hst
    replace HR := Lib.hid (HR.out.below hst)
    replace HhA1 := Lib.hid (HhA1.out.below hst)
    replace HhB1 := Lib.hid (HhB1.out.below hst)
    clear hst hst0 hb lKi cKi0 cKi1 cKi2 cKi3 lKm cKm0 cKm1 cKm2 cKm3 cKm4 cKm5 lKp cKp0 cKp1 cKp2 lKr cKr0 cKr1 cKr2 lKa cKa0 cKa1 cKa2
    have lKi := Ki.lt
    have cKi0 := Ki.cell 0
    have cKi1 := Ki.cell 1
    have cKi2 := Ki.cell 2
    have cKi3 := Ki.cell 3
    have lKm := Km.lt
    have cKm0 := Km.cell 0
    have cKm1 := Km.cell 1
    have cKm2 := Km.cell 2
    have cKm3 := Km.cell 3
    have cKm4 := Km.cell 4
    have cKm5 := Km.cell 5
    have lKp := Kp.lt
    have cKp0 := Kp.cell 0
    have cKp1 := Kp.cell 1
    have cKp2 := Kp.cell 2
    have lKr := Kr.lt
    have cKr0 := Kr.cell 0
    have cKr1 := Kr.cell 1
    have cKr2 := Kr.cell 2
    have lKa := Ka.lt
    have cKa0 := Ka.cell 0
    have cKa1 := Ka.cell 1
    have cKa2 := Ka.cell 2
    have lKb := Kb.lt
    have cKb0 := Kb.cell 0
    have cKb1 := Kb.cell 1
    have cKb2 := Kb.cell 2
    simp only [List.getElem?_toArray, List.getElem?_cons_succ, List.getElem?_cons_zero] at cKi0 cKi1 cKi2 cKi3 cKm0 cKm1 cKm2 cKm3 cKm4 cKm5 cKp0 cKp1 cKp2 cKr0 cKr1 cKr2 cKa0 cKa1 cKa2 cKb0 cKb1 cKb2
    go_wp2_with fail
    have hst0 : Below w5.heap.size w5 (w5.alloc (.cells #[.int .i64 0, .int .i64 0, .slice none 0 0] 46)) := by (repeat' (first | exact Below.refl _ _ | exact Below.refl _ _ | refine balloc ?_ _ | refine Below.drew ?_ | refine below_drewN ?_ _ | refine bset ?_ (by first | omega | (simp <;> omega)) _))
    refine (HRP.out _ (HR.out.below hst0)).mono ?_
    rintro e_ w6 ⟨rfl, hb⟩
    have hst : Below w5.heap.size w5 w6 := btrans hst0 hb
    replace Ki := (Ki.alloc (.cells #[.int .i64 0, .int .i64 0, .slice none 0 0] 46))
    replace Km := (Km.alloc (.cells #[.int .i64 0, .int .i64 0, .slice none 0 0] 46))
    replace Kp := (Kp.alloc (.cells #[.int .i64 0, .int .i64 0, .slice none 0 0] 46))
    replace Kr := (Kr.alloc (.cells #[.int .i64 0, .int .i64 0, .slice none 0 0] 46))
    replace Ka := (Ka.alloc (.cells #[.int .i64 0, .int .i64 0, .slice none 0 0] 46))
    replace Kb := (Kb.alloc (.cells #[.int .i64 0, .int .i64 0, .slice none 0 0] 46))
    have Kc := (Blk.new w5 46 #[.int .i64 0, .int .i64 0, .slice none 0 0])
    replace Ki := Ki.below hb Ki.lt
    replace Km := Km.below hb Km.lt
    replace Kp := Kp.below hb Kp.lt
    replace Kr := Kr.below hb Kr.lt
    replace Ka := Ka.below hb Ka.lt
    replace Kb := Kb.below hb Kb.lt
    replace Kc := Kc.below hb Kc.lt
    replace hbw : Below w.heap.size w w6 := btrans hbw hst
    replace HR := Lib.hid (HR.out.below hst)
    replace HhA1 := Lib.hid (HhA1.out.below hst)
    replace HhB1 := Lib.hid (HhB1.out.below hst)
    clear hst hst0 hb lKi cKi0 cKi1 cKi2 cKi3 lKm cKm0 cKm1 cKm2 cKm3 cKm4 cKm5 lKp cKp0 cKp1 cKp2 lKr cKr0 cKr1 cKr2 lKa cKa0 cKa1 cKa2 lKb cKb0 cKb1 cKb2
    have lKi := Ki.lt
    have cKi0 := Ki.cell 0
    have cKi1 := Ki.cell 1
    have cKi2 := Ki.cell 2
    have cKi3 := Ki.cell 3
    have lKm := Km.lt
    have cKm0 := Km.cell 0
    have cKm1 := Km.cell 1
    have cKm2 := Km.cell 2
    have cKm3 := Km.cell 3
    have cKm4 := Km.cell 4
    have cKm5 := Km.cell 5
    have lKp := Kp.lt
    have cKp0 := Kp.cell 0
    have cKp1 := Kp.cell 1
    have cKp2 := Kp.cell 2
    have lKr := Kr.lt
    have cKr0 := Kr.cell 0
    have cKr1 := Kr.cell 1
    have cKr2 := Kr.cell 2
    have lKa := Ka.lt
    have cKa0 := Ka.cell 0
    have cKa1 := Ka.cell 1
    have cKa2 := Ka.cell 2
    have lKb := Kb.lt
    have cKb0 := Kb.cell 0
    have cKb1 := Kb.cell 1
    have cKb2 := Kb.cell 2
    have lKc := Kc.lt
    have cKc0 := Kc.cell 0
    have cKc1 := Kc.cell 1
    have cKc2 := Kc.cell 2
    simp only [List.getElem?_toArray, List.getElem?_cons_succ, List.getElem?_cons_zero] at cKi0 cKi1 cKi2 cKi3 cKm0 cKm1 cKm2 cKm3 cKm4 cKm5 cKp0 cKp1 cKp2 cKr0 cKr1 cKr2 cKa0 cKa1 cKa2 cKb0 cKb1 cKb2 cKc0 cKc1 cKc2
    go_wp2_with fail
    have hst0 : Below w6.heap.size w6 (w6.alloc (.cells #[.int .i64 0, .int .i64 0, .slice none 0 0] 46)) := by (repeat' (first | exact Below.refl _ _ | exact Below.refl _ _ | refine balloc ?_ _ | refine Below.drew ?_ | refine below_drewN ?_ _ | refine bset ?_ (by first | omega | (simp <;> omega)) _))
    refine (HHR.out _ _ _ _ _ (HhA1.out.below hst0) (HhB1.out.below hst0)).mono ?_
    rintro e_ w7 ⟨rfl, hb⟩
    have hst : Below w6.heap.size w6 w7 := btrans hst0 hb
    replace Ki := (Ki.alloc (.cells #[.int .i64 0, .int .i64 0, .slice none 0 0] 46))
    replace Km := (Km.alloc (.cells #[.int .i64 0, .int .i64 0, .slice none 0 0] 46))
    replace Kp := (Kp.alloc (.cells #[.int .i64 0, .int .i64 0, .slice none 0 0] 46))
    replace Kr := (Kr.alloc (.cells #[.int .i64 0, .int .i64 0, .slice none 0 0] 46))
    replace Ka := (Ka.alloc (.cells #[.int .i64 0, .int .i64 0, .slice none 0 0] 46))
    replace Kb := (Kb.alloc (.cells #[.int .i64 0, .int .i64 0, .slice none 0 0] 46))
    replace Kc := (Kc.alloc (.cells #[.int .i64 0, .int .i64 0, .slice none 0 0] 46))
    have Kd := (Blk.new w6 46 #[.int .i64 0, .int .i64 0, .slice none 0 0])
    replace Ki := Ki.below hb Ki.lt
    replace Km := Km.below hb Km.lt
    replace Kp := Kp.below hb Kp.lt
    replace Kr := Kr.below hb Kr.lt
    replace Ka := Ka.below hb Ka.lt
    replace Kb := Kb.below hb Kb.lt
    replace Kc := Kc.below hb Kc.lt
    replace Kd := Kd.below hb Kd.lt
    replace hbw : Below w.heap.size w w7 := btrans hbw hst
    replace HR := Lib.hid (HR.out.below hst)
    replace HhA1 := Lib.hid (HhA1.out.below hst)
    replace HhB1 := Lib.hid (HhB1.out.below hst)
    clear hst hst0 hb lKi cKi0 cKi1 cKi2 cKi3 lKm cKm0 cKm1 cKm2 cKm3 cKm4 cKm5 lKp cKp0 cKp1 cKp2 lKr cKr0 cKr1 cKr2 lKa cKa0 cKa1 cKa2 lKb cKb0 cKb1 cKb2 lKc cKc0 cKc1 cKc2 Ki Km Kp Kr
    have lKa := Ka.lt
    have cKa0 := Ka.cell 0
    have cKa1 := Ka.cell 1
    have cKa2 := Ka.cell 2
    have lKb := Kb.lt
    have cKb0 := Kb.cell 0
    have cKb1 := Kb.cell 1
    have cKb2 := Kb.cell 2
    have lKc := Kc.lt
    have cKc0 := Kc.cell 0
    have cKc1 := Kc.cell 1
    have cKc2 := Kc.cell 2
    have lKd := Kd.lt
    have cKd0 := Kd.cell 0
    have cKd1 := Kd.cell 1
    have cKd2 := Kd.cell 2
    simp only [List.getElem?_toArray, List.getElem?_cons_succ, List.getElem?_cons_zero] at cKa0 cKa1 cKa2 cKb0 cKb1 cKb2 cKc0 cKc1 cKc2 cKd0 cKd1 cKd2
    go_wp2_with fail
    have hst0 : Below w7.heap.size w7 w7 := by (repeat' (first | exact Below.refl _ _ | exact Below.refl _ _ | refine balloc ?_ _ | refine Below.drew ?_ | refine below_drewN ?_ _ | refine bset ?_ (by first | omega | (simp <;> omega)) _))
    refine (HHP.out _).mono ?_
    rintro e_ w8 ⟨rfl, hb⟩
    have hst : Below w7.heap.size w7 w8 := btrans hst0 hb
    replace Ka := Ka.below hb Ka.lt
    replace Kb := Kb.below hb Kb.lt
    replace Kc := Kc.below hb Kc.lt
    replace Kd := Kd.below hb Kd.lt
    replace hbw : Below w.heap.size w w8 := btrans hbw hst
    replace HR := Lib.hid (HR.out.below hst)
    replace HhA1 := Lib.hid (HhA1.out.below hst)
    replace HhB1 := Lib.hid (HhB1.out.below hst)
    clear hst hst0 hb lKa cKa0 cKa1 cKa2 lKb cKb0 cKb1 cKb2 lKc cKc0 cKc1 cKc2 lKd cKd0 cKd1 cKd2
    have lKa := Ka.lt
    have cKa0 := Ka.cell 0
    have cKa1 := Ka.cell 1
    have cKa2 := Ka.cell 2
    have lKb := Kb.lt
    have cKb0 := Kb.cell 0
    have cKb1 := Kb.cell 1
    have cKb2 := Kb.cell 2
    have lKc := Kc.lt
    have cKc0 := Kc.cell 0
    have cKc1 := Kc.cell 1
    have cKc2 := Kc.cell 2
    have lKd := Kd.lt
    have cKd0 := Kd.cell 0
    have cKd1 := Kd.cell 1
    have cKd2 := Kd.cell 2
    simp only [List.getElem?_toArray, List.getElem?_cons_succ, List.getElem?_cons_zero] at cKa0 cKa1 cKa2 cKb0 cKb1 cKb2 cKc0 cKc1 cKc2 cKd0 cKd1 cKd2
    go_wp2_with fail
    go_ret
    exact ⟨by first | rfl | simp, by (repeat' (first | refine bset ?_ (by first | omega | (simp <;> omega)) _ | refine balloc ?_ _ | refine Below.drew ?_ | refine below_drewN ?_ _ | exact hbw | exact Below.refl _ _))⟩
set_option maxRecDepth 100000 in
set_option maxHeartbeats 3200000 in
theorem paints_ok_ok (IW IH IB ma mb mc md me mf : Int) (s : ByteArray) (pw ph rw_ rh : Int) (n c m d : Nat) (A D : Option Addr) (L : Nat → List (Int × Int)) (x y : Int) (w : World) (hr : rg.Rows w D m d L) (h : (s.size : Int) ≤ 20000) (h0 : ¬ (20 < x ∧ x ≤ 64)) (h1 : ¬ (20 < y ∧ y ≤ 64))
    (xn yn : Nat) (Q : Nat → Nat → Bool) (hxn : x = (xn : Int)) (hyn : y = (yn : Int)) (hy1 : 1 ≤ yn ∧ yn ≤ 64) (HRG : Hid (∀ W', Calls Try.prog 38 #[.agg #[.int .i64 IW, .int .i64 IH, .int .i64 IB, .string s], .agg #[.int .i64 ma, .int .i64 mb, .int .i64 mc, .int .i64 md, .int .i64 me, .int .i64 mf], .int .i64 x, .int .i64 y] W' fun ed w' => ∃ g dd, ed = .returned (.tuple #[.agg #[.int .i64 x, .int .i64 y, .slice (some ⟨g, 0, none⟩) yn dd], .int .i64 0]) ∧ rg.Rows w' (some ⟨g, 0, none⟩) yn dd (rowsOf xn Q) ∧ Below W'.heap.size W' w')) (HRR : Hid (∀ W', Calls Try.prog 39 #[.agg #[.int .i64 IW, .int .i64 IH, .int .i64 IB, .string s], .agg #[.int .i64 ma, .int .i64 mb, .int .i64 mc, .int .i64 md, .int .i64 me, .int .i64 mf], .int .i64 x, .int .i64 y] W' fun ed w' => ∃ g dd, ed = .returned (.tuple #[.agg #[.int .i64 x, .int .i64 y, .slice (some ⟨g, 0, none⟩) yn dd], .int .i64 0]) ∧ rg.Rows w' (some ⟨g, 0, none⟩) yn dd (rowsOf xn Q) ∧ Below W'.heap.size W' w'))
    (Y Y2 : Nat → Int) (hp : Pg w A n c Y) (HPT : Hid (∀ W', Pg W' A n c Y → rg.Rows W' D m d L → Calls Try.prog 31 #[.agg #[.int .i64 pw, .int .i64 ph, .slice A n c], .agg #[.int .i64 IW, .int .i64 IH, .int .i64 IB, .string s], .agg #[.int .i64 ma, .int .i64 mb, .int .i64 mc, .int .i64 md, .int .i64 me, .int .i64 mf], .agg #[.int .i64 rw_, .int .i64 rh, .slice D m d]] W' fun ed w' => ∃ g ff, ed = .returned (.tuple #[.agg #[.int .i64 pw, .int .i64 ph, .slice (some ⟨g, 0, none⟩) n ff], .int .i64 0]) ∧ Pg w' (some ⟨g, 0, none⟩) n ff Y2 ∧ Below W'.heap.size W' w')) (HRP : Hid (∀ W', Pg W' A n c Y → rg.Rows W' D m d L → Calls Try.prog 40 #[.agg #[.int .i64 pw, .int .i64 ph, .slice A n c], .agg #[.int .i64 IW, .int .i64 IH, .int .i64 IB, .string s], .agg #[.int .i64 ma, .int .i64 mb, .int .i64 mc, .int .i64 md, .int .i64 me, .int .i64 mf], .agg #[.int .i64 rw_, .int .i64 rh, .slice D m d]] W' fun ed w' => ∃ g ff, ed = .returned (.tuple #[.agg #[.int .i64 pw, .int .i64 ph, .slice (some ⟨g, 0, none⟩) n ff], .int .i64 0]) ∧ Pg w' (some ⟨g, 0, none⟩) n ff Y2 ∧ Below W'.heap.size W' w')) :
    Calls Try.prog 7 #[.agg #[.int .i64 IW, .int .i64 IH, .int .i64 IB, .string s], .agg #[.int .i64 ma, .int .i64 mb, .int .i64 mc, .int .i64 md, .int .i64 me, .int .i64 mf], .agg #[.int .i64 pw, .int .i64 ph, .slice A n c], .agg #[.int .i64 rw_, .int .i64 rh, .slice D m d], .int .i64 x, .int .i64 y] w fun e w' => e = .returned (.bool true) ∧ Below w.heap.size w w' := by
  have HR := Lib.hid hr
  clear hr
  have z1 : decide ((s.size : Int) > 20000) = false := by simp; omega
  have z1' : decide (20000 < (s.size : Int)) = false := by simp; omega
  rcases (show (decide (x > 20) = false ∧ decide (20 < x) = false) ∨ (decide (x > 20) = true ∧ decide (20 < x) = true ∧ decide (x ≤ 64) = false) by by_cases g : 20 < x <;> simp <;> omega) with ⟨zx, zx'⟩ | ⟨zx, zx', zx2⟩
  all_goals
    rcases (show (decide (y > 20) = false ∧ decide (20 < y) = false) ∨ (decide (y > 20) = true ∧ decide (20 < y) = true ∧ decide (y ≤ 64) = false) by by_cases g : 20 < y <;> simp <;> omega) with ⟨zy, zy'⟩ | ⟨zy, zy', zy2⟩
  all_goals
    clear h h0 h1
    have HHR := Lib.hid (fun c d A D W' ha hb => hxn ▸ hyn ▸ hregion_same xn yn c d A D Q Q W' hy1 ha hb (fun j hj i hi => rfl))
    clear hxn hyn hy1
    have HHP := Lib.hid (fun c d A D W' ha hb => hpage_same pw ph n c d A D Y2 Y2 W' ha hb (fun j hj => rfl))
    have HP := Lib.hid hp
    clear hp
    go_enter Try.func7, Try.ntmps7
    go_wp2_with fail
    have hst0 : Below w.heap.size w ((((w.alloc (.cells #[.int .i64 IW, .int .i64 IH, .int .i64 IB, .string s] 23)).alloc (.cells #[.int .i64 ma, .int .i64 mb, .int .i64 mc, .int .i64 md, .int .i64 me, .int .i64 mf] 25)).alloc (.cells #[.int .i64 pw, .int .i64 ph, .slice A n c] 46)).alloc (.cells #[.int .i64 rw_, .int .i64 rh, .slice D m d] 51)) := by (repeat' (first | exact Below.refl _ _ | exact Below.refl _ _ | refine balloc ?_ _ | refine Below.drew ?_ | refine below_drewN ?_ _ | refine bset ?_ (by first | omega | (simp <;> omega)) _))
    refine (known_any _).mono ?_
    rintro e_ w1 ⟨rfl, hb⟩
    have hst : Below w.heap.size w w1 := btrans hst0 hb
    have Ki := ((((Blk.new w 23 #[.int .i64 IW, .int .i64 IH, .int .i64 IB, .string s]).alloc (.cells #[.int .i64 ma, .int .i64 mb, .int .i64 mc, .int .i64 md, .int .i64 me, .int .i64 mf] 25)).alloc (.cells #[.int .i64 pw, .int .i64 ph, .slice A n c] 46)).alloc (.cells #[.int .i64 rw_, .int .i64 rh, .slice D m d] 51))
    have Km := (((Blk.new (w.alloc (.cells #[.int .i64 IW, .int .i64 IH, .int .i64 IB, .string s] 23)) 25 #[.int .i64 ma, .int .i64 mb, .int .i64 mc, .int .i64 md, .int .i64 me, .int .i64 mf]).alloc (.cells #[.int .i64 pw, .int .i64 ph, .slice A n c] 46)).alloc (.cells #[.int .i64 rw_, .int .i64 rh, .slice D m d] 51))
    have hz_Km : (w.alloc (.cells #[.int .i64 IW, .int .i64 IH, .int .i64 IB, .string s] 23)).heap.size = w.heap.size + 1 := by simp
    rw [hz_Km] at Km
    clear hz_Km
    have Kp := ((Blk.new ((w.alloc (.cells #[.int .i64 IW, .int .i64 IH, .int .i64 IB, .string s] 23)).alloc (.cells #[.int .i64 ma, .int .i64 mb, .int .i64 mc, .int .i64 md, .int .i64 me, .int .i64 mf] 25)) 46 #[.int .i64 pw, .int .i64 ph, .slice A n c]).alloc (.cells #[.int .i64 rw_, .int .i64 rh, .slice D m d] 51))
    have hz_Kp : ((w.alloc (.cells #[.int .i64 IW, .int .i64 IH, .int .i64 IB, .string s] 23)).alloc (.cells #[.int .i64 ma, .int .i64 mb, .int .i64 mc, .int .i64 md, .int .i64 me, .int .i64 mf] 25)).heap.size = w.heap.size + 1 + 1 := by simp
    rw [hz_Kp] at Kp
    clear hz_Kp
    have Kr := (Blk.new (((w.alloc (.cells #[.int .i64 IW, .int .i64 IH, .int .i64 IB, .string s] 23)).alloc (.cells #[.int .i64 ma, .int .i64 mb, .int .i64 mc, .int .i64 md, .int .i64 me, .int .i64 mf] 25)).alloc (.cells #[.int .i64 pw, .int .i64 ph, .slice A n c] 46)) 51 #[.int .i64 rw_, .int .i64 rh, .slice D m d])
    have hz_Kr : (((w.alloc (.cells #[.int .i64 IW, .int .i64 IH, .int .i64 IB, .string s] 23)).alloc (.cells #[.int .i64 ma, .int .i64 mb, .int .i64 mc, .int .i64 md, .int .i64 me, .int .i64 mf] 25)).alloc (.cells #[.int .i64 pw, .int .i64 ph, .slice A n c] 46)).heap.size = w.heap.size + 1 + 1 + 1 := by simp
    rw [hz_Kr] at Kr
    clear hz_Kr
    replace Ki := Ki.below hb Ki.lt
    replace Km := Km.below hb Km.lt
    replace Kp := Kp.below hb Kp.lt
    replace Kr := Kr.below hb Kr.lt
    have hbw : Below w.heap.size w w1 := hst
    replace HR := Lib.hid (HR.out.below hst)
    replace HP := Lib.hid (HP.out.below hst)
    clear hst hst0 hb 
    have lKi := Ki.lt
    have cKi0 := Ki.cell 0
    have cKi1 := Ki.cell 1
    have cKi2 := Ki.cell 2
    have cKi3 := Ki.cell 3
    have lKm := Km.lt
    have cKm0 := Km.cell 0
    have cKm1 := Km.cell 1
    have cKm2 := Km.cell 2
    have cKm3 := Km.cell 3
    have cKm4 := Km.cell 4
    have cKm5 := Km.cell 5
    have lKp := Kp.lt
    have cKp0 := Kp.cell 0
    have cKp1 := Kp.cell 1
    have cKp2 := Kp.cell 2
    have lKr := Kr.lt
    have cKr0 := Kr.cell 0
    have cKr1 := Kr.cell 1
    have cKr2 := Kr.cell 2
    simp only [List.getElem?_toArray, List.getElem?_cons_succ, List.getElem?_cons_zero] at cKi0 cKi1 cKi2 cKi3 cKm0 cKm1 cKm2 cKm3 cKm4 cKm5 cKp0 cKp1 cKp2 cKr0 cKr1 cKr2
    go_wp2_with fail
    have hst0 : Below w1.heap.size w1 w1 := by (repeat' (first | exact Below.refl _ _ | exact Below.refl _ _ | refine balloc ?_ _ | refine Below.drew ?_ | refine below_drewN ?_ _ | refine bset ?_ (by first | omega | (simp <;> omega)) _))
    refine (few_any pw ph rw_ rh n c m d A D L _ (HR.out.below hst0)).mono ?_
    rintro e_ w2 ⟨b, rfl, hb⟩
    have hst : Below w1.heap.size w1 w2 := btrans hst0 hb
    replace Ki := Ki.below hb Ki.lt
    replace Km := Km.below hb Km.lt
    replace Kp := Kp.below hb Kp.lt
    replace Kr := Kr.below hb Kr.lt
    replace hbw : Below w.heap.size w w2 := btrans hbw hst
    replace HR := Lib.hid (HR.out.below hst)
    replace HP := Lib.hid (HP.out.below hst)
    clear hst hst0 hb lKi cKi0 cKi1 cKi2 cKi3 lKm cKm0 cKm1 cKm2 cKm3 cKm4 cKm5 lKp cKp0 cKp1 cKp2 lKr cKr0 cKr1 cKr2
    have lKi := Ki.lt
    have cKi0 := Ki.cell 0
    have cKi1 := Ki.cell 1
    have cKi2 := Ki.cell 2
    have cKi3 := Ki.cell 3
    have lKm := Km.lt
    have cKm0 := Km.cell 0
    have cKm1 := Km.cell 1
    have cKm2 := Km.cell 2
    have cKm3 := Km.cell 3
    have cKm4 := Km.cell 4
    have cKm5 := Km.cell 5
    have lKp := Kp.lt
    have cKp0 := Kp.cell 0
    have cKp1 := Kp.cell 1
    have cKp2 := Kp.cell 2
    have lKr := Kr.lt
    have cKr0 := Kr.cell 0
    have cKr1 := Kr.cell 1
    have cKr2 := Kr.cell 2
    simp only [List.getElem?_toArray, List.getElem?_cons_succ, List.getElem?_cons_zero] at cKi0 cKi1 cKi2 cKi3 cKm0 cKm1 cKm2 cKm3 cKm4 cKm5 cKp0 cKp1 cKp2 cKr0 cKr1 cKr2
    rcases (show b = false ∨ b = true by cases b <;> simp) with h | h
    · subst h
      go_wp2_with fail
      go_ret
      exact ⟨rfl, hbw⟩
    subst h
    go_wp2_with fail
    have hst0 : Below w2.heap.size w2 w2 := by (repeat' (first | exact Below.refl _ _ | exact Below.refl _ _ | refine balloc ?_ _ | refine Below.drew ?_ | refine below_drewN ?_ _ | refine bset ?_ (by first | omega | (simp <;> omega)) _))
    refine (HRG.out _).mono ?_
    rintro e_ w3 ⟨ga, da, rfl, hA1, hb⟩
    have hst : Below w2.heap.size w2 w3 := btrans hst0 hb
    replace Ki := Ki.below hb Ki.lt
    replace Km := Km.below hb Km.lt
    replace Kp := Kp.below hb Kp.lt
    replace Kr := Kr.below hb Kr.lt
    replace hbw : Below w.heap.size w w3 := btrans hbw hst
    replace HR := Lib.hid (HR.out.below hst)
    replace HP := Lib.hid (HP.out.below hst)
    clear hst hst0 hb lKi cKi0 cKi1 cKi2 cKi3 lKm cKm0 cKm1 cKm2 cKm3 cKm4 cKm5 lKp cKp0 cKp1 cKp2 lKr cKr0 cKr1 cKr2
    have HhA1 := Lib.hid hA1
    clear hA1
    have lKi := Ki.lt
    have cKi0 := Ki.cell 0
    have cKi1 := Ki.cell 1
    have cKi2 := Ki.cell 2
    have cKi3 := Ki.cell 3
    have lKm := Km.lt
    have cKm0 := Km.cell 0
    have cKm1 := Km.cell 1
    have cKm2 := Km.cell 2
    have cKm3 := Km.cell 3
    have cKm4 := Km.cell 4
    have cKm5 := Km.cell 5
    have lKp := Kp.lt
    have cKp0 := Kp.cell 0
    have cKp1 := Kp.cell 1
    have cKp2 := Kp.cell 2
    have lKr := Kr.lt
    have cKr0 := Kr.cell 0
    have cKr1 := Kr.cell 1
    have cKr2 := Kr.cell 2
    simp only [List.getElem?_toArray, List.getElem?_cons_succ, List.getElem?_cons_zero] at cKi0 cKi1 cKi2 cKi3 cKm0 cKm1 cKm2 cKm3 cKm4 cKm5 cKp0 cKp1 cKp2 cKr0 cKr1 cKr2
    go_wp2_with fail
    have hst0 : Below w3.heap.size w3 (w3.alloc (.cells #[.int .i64 x, .int .i64 y, .slice (some ⟨ga, 0, none⟩) yn da] 51)) := by (repeat' (first | exact Below.refl _ _ | exact Below.refl _ _ | refine balloc ?_ _ | refine Below.drew ?_ | refine below_drewN ?_ _ | refine bset ?_ (by first | omega | (simp <;> omega)) _))
    refine (HRR.out _).mono ?_
    rintro e_ w4 ⟨gb, db, rfl, hB1, hb⟩
    have hst : Below w3.heap.size w3 w4 := btrans hst0 hb
    replace Ki := (Ki.alloc (.cells #[.int .i64 x, .int .i64 y, .slice (some ⟨ga, 0, none⟩) yn da] 51))
    replace Km := (Km.alloc (.cells #[.int .i64 x, .int .i64 y, .slice (some ⟨ga, 0, none⟩) yn da] 51))
    replace Kp := (Kp.alloc (.cells #[.int .i64 x, .int .i64 y, .slice (some ⟨ga, 0, none⟩) yn da] 51))
    replace Kr := (Kr.alloc (.cells #[.int .i64 x, .int .i64 y, .slice (some ⟨ga, 0, none⟩) yn da] 51))
    have Ka := (Blk.new w3 51 #[.int .i64 x, .int .i64 y, .slice (some ⟨ga, 0, none⟩) yn da])
    replace Ki := Ki.below hb Ki.lt
    replace Km := Km.below hb Km.lt
    replace Kp := Kp.below hb Kp.lt
    replace Kr := Kr.below hb Kr.lt
    replace Ka := Ka.below hb Ka.lt
    replace hbw : Below w.heap.size w w4 := btrans hbw hst
    replace HR := Lib.hid (HR.out.below hst)
    replace HP := Lib.hid (HP.out.below hst)
    replace HhA1 := Lib.hid (HhA1.out.below hst)
    clear hst hst0 hb lKi cKi0 cKi1 cKi2 cKi3 lKm cKm0 cKm1 cKm2 cKm3 cKm4 cKm5 lKp cKp0 cKp1 cKp2 lKr cKr0 cKr1 cKr2
    have HhB1 := Lib.hid hB1
    clear hB1
    have lKi := Ki.lt
    have cKi0 := Ki.cell 0
    have cKi1 := Ki.cell 1
    have cKi2 := Ki.cell 2
    have cKi3 := Ki.cell 3
    have lKm := Km.lt
    have cKm0 := Km.cell 0
    have cKm1 := Km.cell 1
    have cKm2 := Km.cell 2
    have cKm3 := Km.cell 3
    have cKm4 := Km.cell 4
    have cKm5 := Km.cell 5
    have lKp := Kp.lt
    have cKp0 := Kp.cell 0
    have cKp1 := Kp.cell 1
    have cKp2 := Kp.cell 2
    have lKr := Kr.lt
    have cKr0 := Kr.cell 0
    have cKr1 := Kr.cell 1
    have cKr2 := Kr.cell 2
    have lKa := Ka.lt
    have cKa0 := Ka.cell 0
    have cKa1 := Ka.cell 1
    have cKa2 := Ka.cell 2
    simp only [List.getElem?_toArray, List.getElem?_cons_succ, List.getElem?_cons_zero] at cKi0 cKi1 cKi2 cKi3 cKm0 cKm1 cKm2 cKm3 cKm4 cKm5 cKp0 cKp1 cKp2 cKr0 cKr1 cKr2 cKa0 cKa1 cKa2
    go_wp2_with fail
    have hst0 : Below w4.heap.size w4 (w4.alloc (.cells #[.int .i64 x, .int .i64 y, .slice (some ⟨gb, 0, none⟩) yn db] 51)) := by (repeat' (first | exact Below.refl _ _ | exact Below.refl _ _ | refine balloc ?_ _ | refine Below.drew ?_ | refine below_drewN ?_ _ | refine bset ?_ (by first | omega | (simp <;> omega)) _))
    refine (HPT.out _ (HP.out.below hst0) (HR.out.below hst0)).mono ?_
    rintro e_ w5 ⟨gc, fc, rfl, hC1, hb⟩
    have hst : Below w4.heap.size w4 w5 := btrans hst0 hb
    replace Ki := (Ki.alloc (.cells #[.int .i64 x, .int .i64 y, .slice (some ⟨gb, 0, none⟩) yn db] 51))
    replace Km := (Km.alloc (.cells #[.int .i64 x, .int .i64 y, .slice (some ⟨gb, 0, none⟩) yn db] 51))
    replace Kp := (Kp.alloc (.cells #[.int .i64 x, .int .i64 y, .slice (some ⟨gb, 0, none⟩) yn db] 51))
    replace Kr := (Kr.alloc (.cells #[.int .i64 x, .int .i64 y, .slice (some ⟨gb, 0, none⟩) yn db] 51))
    replace Ka := (Ka.alloc (.cells #[.int .i64 x, .int .i64 y, .slice (some ⟨gb, 0, none⟩) yn db] 51))
    have Kb := (Blk.new w4 51 #[.int .i64 x, .int .i64 y, .slice (some ⟨gb, 0, none⟩) yn db])
    replace Ki := Ki.below hb Ki.lt
    replace Km := Km.below hb Km.lt
    replace Kp := Kp.below hb Kp.lt
    replace Kr := Kr.below hb Kr.lt
    replace Ka := Ka.below hb Ka.lt
    replace Kb := Kb.below hb Kb.lt
    replace hbw : Below w.heap.size w w5 := btrans hbw hst
    replace HR := Lib.hid (HR.out.below hst)
    replace HP := Lib.hid (HP.out.below hst)
    replace HhA1 := Lib.hid (HhA1.out.below hst)
    replace HhB1 := Lib.hid (HhB1.out.below hst)
    clear hst hst0 hb lKi cKi0 cKi1 cKi2 cKi3 lKm cKm0 cKm1 cKm2 cKm3 cKm4 cKm5 lKp cKp0 cKp1 cKp2 lKr cKr0 cKr1 cKr2 lKa cKa0 cKa1 cKa2
    have HhC1 := Lib.hid hC1
    clear hC1
    have lKi := Ki.lt
    have cKi0 := Ki.cell 0
    have cKi1 := Ki.cell 1
    have cKi2 := Ki.cell 2
    have cKi3 := Ki.cell 3
    have lKm := Km.lt
    have cKm0 := Km.cell 0
    have cKm1 := Km.cell 1
    have cKm2 := Km.cell 2
    have cKm3 := Km.cell 3
    have cKm4 := Km.cell 4
    have cKm5 := Km.cell 5
    have lKp := Kp.lt
    have cKp0 := Kp.cell 0
    have cKp1 := Kp.cell 1
    have cKp2 := Kp.cell 2
    have lKr := Kr.lt
    have cKr0 := Kr.cell 0
    have cKr1 := Kr.cell 1
    have cKr2 := Kr.cell 2
    have lKa := Ka.lt
    have cKa0 := Ka.cell 0
    have cKa1 := Ka.cell 1
    have cKa2 := Ka.cell 2
    have lKb := Kb.lt
    have cKb0 := Kb.cell 0
    have cKb1 := Kb.cell 1
    have cKb2 := Kb.cell 2
    simp only [List.getElem?_toArray, List.getElem?_cons_succ, List.getElem?_cons_zero] at cKi0 cKi1 cKi2 cKi3 cKm0 cKm1 cKm2 cKm3 cKm4 cKm5 cKp0 cKp1 cKp2 cKr0 cKr1 cKr2 cKa0 cKa1 cKa2 cKb0 cKb1 cKb2
    go_wp2_with fail
    have hst0 : Below w5.heap.size w5 (w5.alloc (.cells #[.int .i64 pw, .int .i64 ph, .slice (some ⟨gc, 0, none⟩) n fc] 46)) := by (repeat' (first | exact Below.refl _ _ | exact Below.refl _ _ | refine balloc ?_ _ | refine Below.drew ?_ | refine below_drewN ?_ _ | refine bset ?_ (by first | omega | (simp <;> omega)) _))
    refine (HRP.out _ (HP.out.below hst0) (HR.out.below hst0)).mono ?_
    rintro e_ w6 ⟨gd, fd, rfl, hD1, hb⟩
    have hst : Below w5.heap.size w5 w6 := btrans hst0 hb
    replace Ki := (Ki.alloc (.cells #[.int .i64 pw, .int .i64 ph, .slice (some ⟨gc, 0, none⟩) n fc] 46))
    replace Km := (Km.alloc (.cells #[.int .i64 pw, .int .i64 ph, .slice (some ⟨gc, 0, none⟩) n fc] 46))
    replace Kp := (Kp.alloc (.cells #[.int .i64 pw, .int .i64 ph, .slice (some ⟨gc, 0, none⟩) n fc] 46))
    replace Kr := (Kr.alloc (.cells #[.int .i64 pw, .int .i64 ph, .slice (some ⟨gc, 0, none⟩) n fc] 46))
    replace Ka := (Ka.alloc (.cells #[.int .i64 pw, .int .i64 ph, .slice (some ⟨gc, 0, none⟩) n fc] 46))
    replace Kb := (Kb.alloc (.cells #[.int .i64 pw, .int .i64 ph, .slice (some ⟨gc, 0, none⟩) n fc] 46))
    have Kc := (Blk.new w5 46 #[.int .i64 pw, .int .i64 ph, .slice (some ⟨gc, 0, none⟩) n fc])
    replace Ki := Ki.below hb Ki.lt
    replace Km := Km.below hb Km.lt
    replace Kp := Kp.below hb Kp.lt
    replace Kr := Kr.below hb Kr.lt
    replace Ka := Ka.below hb Ka.lt
    replace Kb := Kb.below hb Kb.lt
    replace Kc := Kc.below hb Kc.lt
    replace hbw : Below w.heap.size w w6 := btrans hbw hst
    replace HR := Lib.hid (HR.out.below hst)
    replace HP := Lib.hid (HP.out.below hst)
    replace HhA1 := Lib.hid (HhA1.out.below hst)
    replace HhB1 := Lib.hid (HhB1.out.below hst)
    replace HhC1 := Lib.hid (HhC1.out.below hst)
    clear hst hst0 hb lKi cKi0 cKi1 cKi2 cKi3 lKm cKm0 cKm1 cKm2 cKm3 cKm4 cKm5 lKp cKp0 cKp1 cKp2 lKr cKr0 cKr1 cKr2 lKa cKa0 cKa1 cKa2 lKb cKb0 cKb1 cKb2
    have HhD1 := Lib.hid hD1
    clear hD1
    have lKi := Ki.lt
    have cKi0 := Ki.cell 0
    have cKi1 := Ki.cell 1
    have cKi2 := Ki.cell 2
    have cKi3 := Ki.cell 3
    have lKm := Km.lt
    have cKm0 := Km.cell 0
    have cKm1 := Km.cell 1
    have cKm2 := Km.cell 2
    have cKm3 := Km.cell 3
    have cKm4 := Km.cell 4
    have cKm5 := Km.cell 5
    have lKp := Kp.lt
    have cKp0 := Kp.cell 0
    have cKp1 := Kp.cell 1
    have cKp2 := Kp.cell 2
    have lKr := Kr.lt
    have cKr0 := Kr.cell 0
    have cKr1 := Kr.cell 1
    have cKr2 := Kr.cell 2
    have lKa := Ka.lt
    have cKa0 := Ka.cell 0
    have cKa1 := Ka.cell 1
    have cKa2 := Ka.cell 2
    have lKb := Kb.lt
    have cKb0 := Kb.cell 0
    have cKb1 := Kb.cell 1
    have cKb2 := Kb.cell 2
    have lKc := Kc.lt
    have cKc0 := Kc.cell 0
    have cKc1 := Kc.cell 1
    have cKc2 := Kc.cell 2
    simp only [List.getElem?_toArray, List.getElem?_cons_succ, List.getElem?_cons_zero] at cKi0 cKi1 cKi2 cKi3 cKm0 cKm1 cKm2 cKm3 cKm4 cKm5 cKp0 cKp1 cKp2 cKr0 cKr1 cKr2 cKa0 cKa1 cKa2 cKb0 cKb1 cKb2 cKc0 cKc1 cKc2
    go_wp2_with fail
    have hst0 : Below w6.heap.size w6 (w6.alloc (.cells #[.int .i64 pw, .int .i64 ph, .slice (some ⟨gd, 0, none⟩) n fd] 46)) := by (repeat' (first | exact Below.refl _ _ | exact Below.refl _ _ | refine balloc ?_ _ | refine Below.drew ?_ | refine below_drewN ?_ _ | refine bset ?_ (by first | omega | (simp <;> omega)) _))
    refine (HHR.out _ _ _ _ _ (HhA1.out.below hst0) (HhB1.out.below hst0)).mono ?_
    rintro e_ w7 ⟨rfl, hb⟩
    have hst : Below w6.heap.size w6 w7 := btrans hst0 hb
    replace Ki := (Ki.alloc (.cells #[.int .i64 pw, .int .i64 ph, .slice (some ⟨gd, 0, none⟩) n fd] 46))
    replace Km := (Km.alloc (.cells #[.int .i64 pw, .int .i64 ph, .slice (some ⟨gd, 0, none⟩) n fd] 46))
    replace Kp := (Kp.alloc (.cells #[.int .i64 pw, .int .i64 ph, .slice (some ⟨gd, 0, none⟩) n fd] 46))
    replace Kr := (Kr.alloc (.cells #[.int .i64 pw, .int .i64 ph, .slice (some ⟨gd, 0, none⟩) n fd] 46))
    replace Ka := (Ka.alloc (.cells #[.int .i64 pw, .int .i64 ph, .slice (some ⟨gd, 0, none⟩) n fd] 46))
    replace Kb := (Kb.alloc (.cells #[.int .i64 pw, .int .i64 ph, .slice (some ⟨gd, 0, none⟩) n fd] 46))
    replace Kc := (Kc.alloc (.cells #[.int .i64 pw, .int .i64 ph, .slice (some ⟨gd, 0, none⟩) n fd] 46))
    have Kd := (Blk.new w6 46 #[.int .i64 pw, .int .i64 ph, .slice (some ⟨gd, 0, none⟩) n fd])
    replace Ki := Ki.below hb Ki.lt
    replace Km := Km.below hb Km.lt
    replace Kp := Kp.below hb Kp.lt
    replace Kr := Kr.below hb Kr.lt
    replace Ka := Ka.below hb Ka.lt
    replace Kb := Kb.below hb Kb.lt
    replace Kc := Kc.below hb Kc.lt
    replace Kd := Kd.below hb Kd.lt
    replace hbw : Below w.heap.size w w7 := btrans hbw hst
    replace HR := Lib.hid (HR.out.below hst)
    replace HP := Lib.hid (HP.out.below hst)
    replace HhA1 := Lib.hid (HhA1.out.below hst)
    replace HhB1 := Lib.hid (HhB1.out.below hst)
    replace HhC1 := Lib.hid (HhC1.out.below hst)
    replace HhD1 := Lib.hid (HhD1.out.below hst)
    clear hst hst0 hb lKi cKi0 cKi1 cKi2 cKi3 lKm cKm0 cKm1 cKm2 cKm3 cKm4 cKm5 lKp cKp0 cKp1 cKp2 lKr cKr0 cKr1 cKr2 lKa cKa0 cKa1 cKa2 lKb cKb0 cKb1 cKb2 lKc cKc0 cKc1 cKc2 Ki Km Kp Kr
    have lKa := Ka.lt
    have cKa0 := Ka.cell 0
    have cKa1 := Ka.cell 1
    have cKa2 := Ka.cell 2
    have lKb := Kb.lt
    have cKb0 := Kb.cell 0
    have cKb1 := Kb.cell 1
    have cKb2 := Kb.cell 2
    have lKc := Kc.lt
    have cKc0 := Kc.cell 0
    have cKc1 := Kc.cell 1
    have cKc2 := Kc.cell 2
    have lKd := Kd.lt
    have cKd0 := Kd.cell 0
    have cKd1 := Kd.cell 1
    have cKd2 := Kd.cell 2
    simp only [List.getElem?_toArray, List.getElem?_cons_succ, List.getElem?_cons_zero] at cKa0 cKa1 cKa2 cKb0 cKb1 cKb2 cKc0 cKc1 cKc2 cKd0 cKd1 cKd2
    go_wp2_with fail
    have hst0 : Below w7.heap.size w7 w7 := by (repeat' (first | exact Below.refl _ _ | exact Below.refl _ _ | refine balloc ?_ _ | refine Below.drew ?_ | refine below_drewN ?_ _ | refine bset ?_ (by first | omega | (simp <;> omega)) _))
    refine (HHP.out _ _ _ _ _ (HhC1.out.below hst0) (HhD1.out.below hst0)).mono ?_
    rintro e_ w8 ⟨rfl, hb⟩
    have hst : Below w7.heap.size w7 w8 := btrans hst0 hb
    replace Ka := Ka.below hb Ka.lt
    replace Kb := Kb.below hb Kb.lt
    replace Kc := Kc.below hb Kc.lt
    replace Kd := Kd.below hb Kd.lt
    replace hbw : Below w.heap.size w w8 := btrans hbw hst
    replace HR := Lib.hid (HR.out.below hst)
    replace HP := Lib.hid (HP.out.below hst)
    replace HhA1 := Lib.hid (HhA1.out.below hst)
    replace HhB1 := Lib.hid (HhB1.out.below hst)
    replace HhC1 := Lib.hid (HhC1.out.below hst)
    replace HhD1 := Lib.hid (HhD1.out.below hst)
    clear hst hst0 hb lKa cKa0 cKa1 cKa2 lKb cKb0 cKb1 cKb2 lKc cKc0 cKc1 cKc2 lKd cKd0 cKd1 cKd2
    have lKa := Ka.lt
    have cKa0 := Ka.cell 0
    have cKa1 := Ka.cell 1
    have cKa2 := Ka.cell 2
    have lKb := Kb.lt
    have cKb0 := Kb.cell 0
    have cKb1 := Kb.cell 1
    have cKb2 := Kb.cell 2
    have lKc := Kc.lt
    have cKc0 := Kc.cell 0
    have cKc1 := Kc.cell 1
    have cKc2 := Kc.cell 2
    have lKd := Kd.lt
    have cKd0 := Kd.cell 0
    have cKd1 := Kd.cell 1
    have cKd2 := Kd.cell 2
    simp only [List.getElem?_toArray, List.getElem?_cons_succ, List.getElem?_cons_zero] at cKa0 cKa1 cKa2 cKb0 cKb1 cKb2 cKc0 cKc1 cKc2 cKd0 cKd1 cKd2
    go_wp2_with fail
    go_ret
    exact ⟨by first | rfl | simp, by (repeat' (first | refine bset ?_ (by first | omega | (simp <;> omega)) _ | refine balloc ?_ _ | refine Below.drew ?_ | refine below_drewN ?_ _ | exact hbw | exact Below.refl _ _))⟩
theorem side_bd {v : Int} (h : ik.sideB v = true) : 1 ≤ v ∧ v ≤ 64 := by unfold ik.sideB at h; simpa using h
theorem side_no {v : Int} (h : ¬ (1 ≤ v ∧ v ≤ 64)) : ik.sideB v = false := by unfold ik.sideB; simpa using h
theorem pg_of_bytes {w : World} {A : Option Addr} {n c : Nat} {bs : List UInt8} (h : Bytes w A n c bs) (hn : 0 < n) : Pg w A n c (fun j => ((bs.getD j 0).toNat : Int)) := by
  obtain ⟨h1, h2, h3⟩ := h
  obtain ⟨b, o, e, hlt, hc⟩ := h3 hn
  refine ⟨h2, b, o, e, hlt, fun j hj => ?_⟩
  have hl : j < bs.length := by omega
  have e2 : bs.getD j 0 = bs[j] := by rw [List.getD_eq_getElem?_getD, List.getElem?_eq_getElem hl]; rfl
  have := bs[j].toNat_lt
  show w.cell? _ = some (.int .u8 ((bs.getD j 0).toNat : Int)) ∧ (0 : Int) ≤ ((bs.getD j 0).toNat : Int) ∧ ((bs.getD j 0).toNat : Int) ≤ 255
  rw [e2]
  exact ⟨hc j hl, by omega, by omega⟩
theorem region_cases (IW IH IB ma mb mc md me mf : Int) (s : ByteArray) (x y : Int) (hs : (s.size : Int) ≤ 9223372036854775807) :
    (∃ er : Int, (∀ W', Calls Try.prog 38 #[.agg #[.int .i64 IW, .int .i64 IH, .int .i64 IB, .string s], .agg #[.int .i64 ma, .int .i64 mb, .int .i64 mc, .int .i64 md, .int .i64 me, .int .i64 mf], .int .i64 x, .int .i64 y] W' fun ed w' => ed = .returned (.tuple #[.agg #[.int .i64 0, .int .i64 0, .slice none 0 0], .int .i64 er]) ∧ Below W'.heap.size W' w') ∧
      (∀ W', Calls Try.prog 39 #[.agg #[.int .i64 IW, .int .i64 IH, .int .i64 IB, .string s], .agg #[.int .i64 ma, .int .i64 mb, .int .i64 mc, .int .i64 md, .int .i64 me, .int .i64 mf], .int .i64 x, .int .i64 y] W' fun ed w' => ed = .returned (.tuple #[.agg #[.int .i64 0, .int .i64 0, .slice none 0 0], .int .i64 er]) ∧ Below W'.heap.size W' w')) ∨
    (∃ (xn yn : Nat) (Q : Nat → Nat → Bool), x = (xn : Int) ∧ y = (yn : Int) ∧ (1 ≤ yn ∧ yn ≤ 64) ∧
      (∀ W', Calls Try.prog 38 #[.agg #[.int .i64 IW, .int .i64 IH, .int .i64 IB, .string s], .agg #[.int .i64 ma, .int .i64 mb, .int .i64 mc, .int .i64 md, .int .i64 me, .int .i64 mf], .int .i64 x, .int .i64 y] W' fun ed w' => ∃ g dd, ed = .returned (.tuple #[.agg #[.int .i64 x, .int .i64 y, .slice (some ⟨g, 0, none⟩) yn dd], .int .i64 0]) ∧ rg.Rows w' (some ⟨g, 0, none⟩) yn dd (rowsOf xn Q) ∧ Below W'.heap.size W' w') ∧
      (∀ W', Calls Try.prog 39 #[.agg #[.int .i64 IW, .int .i64 IH, .int .i64 IB, .string s], .agg #[.int .i64 ma, .int .i64 mb, .int .i64 mc, .int .i64 md, .int .i64 me, .int .i64 mf], .int .i64 x, .int .i64 y] W' fun ed w' => ∃ g dd, ed = .returned (.tuple #[.agg #[.int .i64 x, .int .i64 y, .slice (some ⟨g, 0, none⟩) yn dd], .int .i64 0]) ∧ rg.Rows w' (some ⟨g, 0, none⟩) yn dd (rowsOf xn Q) ∧ Below W'.heap.size W' w')) := by
  have HMI := fun W' => rmay37_any IW IH IB s W' hs
  have HMM := fun W' => mt.rmay_any ma mb mc md me mf W'
  cases hi : mayI IW IH IB s.size with
  | false =>
    rw [hi] at HMI
    exact .inl ⟨1, fun W' => over_no1 _ _ _ _ _ _ _ _ _ _ 0 _ _ W' (Lib.hid fun W' => look_no1 IW IH IB ma mb mc md me mf s W' hs hi), fun W' => rover_no1 _ _ _ _ _ _ _ _ _ _ _ _ W' (Lib.hid HMI)⟩
  | true =>
    rw [hi] at HMI
    cases hm : mt.mayB ma mb mc md me mf with
    | false =>
      rw [hm] at HMM
      exact .inl ⟨1, fun W' => over_no1 _ _ _ _ _ _ _ _ _ _ 0 _ _ W' (Lib.hid fun W' => look_no2 IW IH IB ma mb mc md me mf s W' hs hi hm), fun W' => rover_no2 _ _ _ _ _ _ _ _ _ _ _ _ W' (Lib.hid HMI) (Lib.hid HMM)⟩
    | true =>
      rw [hm] at HMM
      have hd := det_bd hm
      have HL := Lib.hid (fun W' => look_yes IW IH IB ma mb mc md me mf s (ma * md) (mb * mc) (ma * md - mb * mc) W' hs hi hm rfl rfl rfl hd.1.1 hd.1.2 hd.2.1 hd.2.2)
      by_cases g1 : x < 1
      · exact .inl ⟨1, fun W' => over_no2 _ _ _ _ _ _ _ _ _ _ _ _ _ W' HL g1, fun W' => rover_no3 _ _ _ _ _ _ _ _ _ _ _ y W' (Lib.hid HMI) (Lib.hid HMM) (Lib.hid fun W' => (side_no (v := x) (by omega)) ▸ (ik.isside_any x W').mono fun e w' ⟨h1, h2⟩ => ⟨h1, h2⟩)⟩
      · by_cases g2 : 64 < x
        · exact .inl ⟨1, fun W' => over_no3 _ _ _ _ _ _ _ _ _ _ _ _ _ W' HL g1 g2, fun W' => rover_no3 _ _ _ _ _ _ _ _ _ _ _ y W' (Lib.hid HMI) (Lib.hid HMM) (Lib.hid fun W' => (side_no (v := x) (by omega)) ▸ (ik.isside_any x W').mono fun e w' ⟨h1, h2⟩ => ⟨h1, h2⟩)⟩
        · have hsx : ∀ W', Calls Try.prog 75 #[.int .i64 x] W' fun ed w' => ed = .returned (.bool true) ∧ W' = w' := fun W' => by
            have := ik.isside_any x W'
            rwa [ik.sideB_true (by omega) (by omega)] at this
          by_cases g3 : y < 1
          · exact .inl ⟨1, fun W' => over_no4 _ _ _ _ _ _ _ _ _ _ _ _ _ W' HL g1 g2 g3, fun W' => rover_no4 _ _ _ _ _ _ _ _ _ _ _ _ W' (Lib.hid HMI) (Lib.hid HMM) (Lib.hid hsx) (Lib.hid fun W' => by have := ik.isside_any y W'; rwa [side_no (v := y) (by omega)] at this)⟩
          · by_cases g4 : 64 < y
            · exact .inl ⟨1, fun W' => over_no5 _ _ _ _ _ _ _ _ _ _ _ _ _ W' HL g1 g2 g3 g4, fun W' => rover_no4 _ _ _ _ _ _ _ _ _ _ _ _ W' (Lib.hid HMI) (Lib.hid HMM) (Lib.hid hsx) (Lib.hid fun W' => by have := ik.isside_any y W'; rwa [side_no (v := y) (by omega)] at this)⟩
            · obtain ⟨xn, rfl⟩ := Int.eq_ofNat_of_zero_le (show 0 ≤ x by omega)
              obtain ⟨yn, rfl⟩ := Int.eq_ofNat_of_zero_le (show 0 ≤ y by omega)
              have hx1 : 1 ≤ xn ∧ xn ≤ 64 := by omega
              have hy1 : 1 ≤ yn ∧ yn ≤ 64 := by omega
              by_cases h0 : ma * md - mb * mc = 0
              · exact .inl ⟨14, fun W' => over_det0 IW IH IB ma mb mc md me mf s xn yn W' hx1 hy1 hs hi hm h0, fun W' => rover_det0 IW IH IB ma mb mc md me mf s xn yn W' hx1 hy1 hs hi hm h0⟩
              · exact .inr ⟨xn, yn, _, rfl, rfl, hy1, fun W' => (over_any IW IH IB ma mb mc md me mf _ s xn yn W' hx1 hy1 hs hi hm rfl h0).mono fun e w' ⟨g, _, h1, h2, h3⟩ => ⟨g, _, h1, h2, h3⟩, fun W' => rover_any IW IH IB ma mb mc md me mf _ s xn yn W' hx1 hy1 hs hi hm rfl h0⟩
theorem paint_cases (IW IH IB ma mb mc md me mf : Int) (s : ByteArray) (pw ph rw_ rh : Int) (n c m d : Nat) (A D : Option Addr) (L : Nat → List (Int × Int)) (bs : List UInt8) (w : World) (hs : (s.size : Int) ≤ 9223372036854775807) (hB : Bytes w A n c bs) (hn : n ≤ 9223372036854775807) :
    (∃ ep : Int, (∀ W', rg.Rows W' D m d L → Calls Try.prog 31 #[.agg #[.int .i64 pw, .int .i64 ph, .slice A n c], .agg #[.int .i64 IW, .int .i64 IH, .int .i64 IB, .string s], .agg #[.int .i64 ma, .int .i64 mb, .int .i64 mc, .int .i64 md, .int .i64 me, .int .i64 mf], .agg #[.int .i64 rw_, .int .i64 rh, .slice D m d]] W' fun ed w' => ed = .returned (.tuple #[.agg #[.int .i64 0, .int .i64 0, .slice none 0 0], .int .i64 ep]) ∧ Below W'.heap.size W' w') ∧
      (∀ W', rg.Rows W' D m d L → Calls Try.prog 40 #[.agg #[.int .i64 pw, .int .i64 ph, .slice A n c], .agg #[.int .i64 IW, .int .i64 IH, .int .i64 IB, .string s], .agg #[.int .i64 ma, .int .i64 mb, .int .i64 mc, .int .i64 md, .int .i64 me, .int .i64 mf], .agg #[.int .i64 rw_, .int .i64 rh, .slice D m d]] W' fun ed w' => ed = .returned (.tuple #[.agg #[.int .i64 0, .int .i64 0, .slice none 0 0], .int .i64 ep]) ∧ Below W'.heap.size W' w')) ∨
    (∃ Y Y2 : Nat → Int, Pg w A n c Y ∧
      (∀ W', Pg W' A n c Y → rg.Rows W' D m d L → Calls Try.prog 31 #[.agg #[.int .i64 pw, .int .i64 ph, .slice A n c], .agg #[.int .i64 IW, .int .i64 IH, .int .i64 IB, .string s], .agg #[.int .i64 ma, .int .i64 mb, .int .i64 mc, .int .i64 md, .int .i64 me, .int .i64 mf], .agg #[.int .i64 rw_, .int .i64 rh, .slice D m d]] W' fun ed w' => ∃ g ff, ed = .returned (.tuple #[.agg #[.int .i64 pw, .int .i64 ph, .slice (some ⟨g, 0, none⟩) n ff], .int .i64 0]) ∧ Pg w' (some ⟨g, 0, none⟩) n ff Y2 ∧ Below W'.heap.size W' w') ∧
      (∀ W', Pg W' A n c Y → rg.Rows W' D m d L → Calls Try.prog 40 #[.agg #[.int .i64 pw, .int .i64 ph, .slice A n c], .agg #[.int .i64 IW, .int .i64 IH, .int .i64 IB, .string s], .agg #[.int .i64 ma, .int .i64 mb, .int .i64 mc, .int .i64 md, .int .i64 me, .int .i64 mf], .agg #[.int .i64 rw_, .int .i64 rh, .slice D m d]] W' fun ed w' => ∃ g ff, ed = .returned (.tuple #[.agg #[.int .i64 pw, .int .i64 ph, .slice (some ⟨g, 0, none⟩) n ff], .int .i64 0]) ∧ Pg w' (some ⟨g, 0, none⟩) n ff Y2 ∧ Below W'.heap.size W' w')) := by
  have HMI := fun W' => rmay37_any IW IH IB s W' hs
  have HMM := fun W' => mt.rmay_any ma mb mc md me mf W'
  cases hi : mayI IW IH IB s.size with
  | false =>
    rw [hi] at HMI
    exact .inl ⟨1, fun W' hr => paint_no1 _ _ _ _ _ _ _ _ _ _ 0 _ _ _ _ _ _ _ _ _ _ _ W' hr (Lib.hid fun W' => look_no1 IW IH IB ma mb mc md me mf s W' hs hi), fun W' hr => rpaint_no1 _ _ _ _ _ _ _ _ _ _ _ _ _ _ _ _ _ _ _ _ _ W' hr (Lib.hid HMI)⟩
  | true =>
    rw [hi] at HMI
    cases hm : mt.mayB ma mb mc md me mf with
    | false =>
      rw [hm] at HMM
      exact .inl ⟨1, fun W' hr => paint_no1 _ _ _ _ _ _ _ _ _ _ 0 _ _ _ _ _ _ _ _ _ _ _ W' hr (Lib.hid fun W' => look_no2 IW IH IB ma mb mc md me mf s W' hs hi hm), fun W' hr => rpaint_no2 _ _ _ _ _ _ _ _ _ _ _ _ _ _ _ _ _ _ _ _ _ W' hr (Lib.hid HMI) (Lib.hid HMM)⟩
    | true =>
      rw [hm] at HMM
      have hd := det_bd hm
      have HL := Lib.hid (fun W' => look_yes IW IH IB ma mb mc md me mf s (ma * md) (mb * mc) (ma * md - mb * mc) W' hs hi hm rfl rfl rfl hd.1.1 hd.1.2 hd.2.1 hd.2.2)
      have HP1 := fun W' => ik.may_any pw ph A n c W' hn
      have HP2 := fun W' => ik.rmay_any pw ph A n c W' hn
      cases hp : ik.mayB pw ph n with
      | false =>
        rw [hp] at HP1 HP2
        exact .inl ⟨1, fun W' hr => paint_no2 _ _ _ _ _ _ _ _ _ _ _ _ _ _ _ _ _ _ _ _ _ _ W' hr HL (Lib.hid HP1), fun W' hr => rpaint_no3 _ _ _ _ _ _ _ _ _ _ _ _ _ _ _ _ _ _ _ _ _ W' hr (Lib.hid HMI) (Lib.hid HMM) (Lib.hid fun W' hr => fair_no1 _ _ _ _ _ _ _ _ _ _ _ W' hr (Lib.hid HP2))⟩
      | true =>
        rw [hp] at HP1 HP2
        have no : ∀ (h1 : ∀ W', rg.Rows W' D m d L → Calls Try.prog 72 #[.agg #[.int .i64 rw_, .int .i64 rh, .slice D m d]] W' fun ed w' => ed = .returned (.bool false) ∧ Below W'.heap.size W' w') (h2 : ∀ W', rg.Rows W' D m d L → Calls Try.prog 117 #[.agg #[.int .i64 rw_, .int .i64 rh, .slice D m d]] W' fun ed w' => ed = .returned (.bool false) ∧ Below W'.heap.size W' w'),
            (∃ ep : Int, (∀ W', rg.Rows W' D m d L → Calls Try.prog 31 #[.agg #[.int .i64 pw, .int .i64 ph, .slice A n c], .agg #[.int .i64 IW, .int .i64 IH, .int .i64 IB, .string s], .agg #[.int .i64 ma, .int .i64 mb, .int .i64 mc, .int .i64 md, .int .i64 me, .int .i64 mf], .agg #[.int .i64 rw_, .int .i64 rh, .slice D m d]] W' fun ed w' => ed = .returned (.tuple #[.agg #[.int .i64 0, .int .i64 0, .slice none 0 0], .int .i64 ep]) ∧ Below W'.heap.size W' w') ∧
      (∀ W', rg.Rows W' D m d L → Calls Try.prog 40 #[.agg #[.int .i64 pw, .int .i64 ph, .slice A n c], .agg #[.int .i64 IW, .int .i64 IH, .int .i64 IB, .string s], .agg #[.int .i64 ma, .int .i64 mb, .int .i64 mc, .int .i64 md, .int .i64 me, .int .i64 mf], .agg #[.int .i64 rw_, .int .i64 rh, .slice D m d]] W' fun ed w' => ed = .returned (.tuple #[.agg #[.int .i64 0, .int .i64 0, .slice none 0 0], .int .i64 ep]) ∧ Below W'.heap.size W' w')) := fun h1 h2 =>
          ⟨1, fun W' hr => paint_no3 _ _ _ _ _ _ _ _ _ _ _ _ _ _ _ _ _ _ _ _ _ _ W' hr HL (Lib.hid HP1) (Lib.hid h1), fun W' hr => rpaint_no3 _ _ _ _ _ _ _ _ _ _ _ _ _ _ _ _ _ _ _ _ _ W' hr (Lib.hid HMI) (Lib.hid HMM) (Lib.hid fun W' hr => fair_no2 _ _ _ _ _ _ _ _ _ _ _ W' hr (Lib.hid HP2) (Lib.hid h2))⟩
        cases g1 : ik.sideB rw_ with
        | false => exact .inl (no (fun W' _ => regmay_no1 _ _ _ _ _ L W' g1) (fun W' _ => rregmay_no1 _ _ _ _ _ L W' g1))
        | true =>
          cases g2 : ik.sideB rh with
          | false => exact .inl (no (fun W' _ => regmay_no2 _ _ _ _ _ L W' g1 g2) (fun W' _ => rregmay_no2 _ _ _ _ _ L W' g1 g2))
          | true =>
            by_cases g3 : (m : Int) = rh
            · subst g3
              by_cases g4 : ∀ j, j < m → sp.mayB (L j) rw_ = true
              · obtain ⟨rn, rfl⟩ := Int.eq_ofNat_of_zero_le (show 0 ≤ rw_ by have := side_bd g1; omega)
                have hW : 1 ≤ rn ∧ rn ≤ 64 := by have := side_bd g1; omega
                have hH : 1 ≤ m ∧ m ≤ 64 := by have := side_bd g2; omega
                have y1 := fun W' (hr : rg.Rows W' D m d L) => rg.rmay_yes rn m d D L W' hW hH g4 hr
                have y2 := fun W' (hr : rg.Rows W' D m d L) => rg.mayreg_yes rn m d D (setOf L) W' hW hH (Rows.canon hr g4)
                by_cases g5 : pw = (rn : Int)
                · by_cases g6 : ph = (m : Int)
                  · subst g5 g6
                    have hnn : n = 3 * (rn * m) := by
                      unfold ik.mayB at hp
                      simp only [Bool.and_eq_true, beq_iff_eq] at hp
                      have h2 := hp.2
                      rw [Int.mul_assoc] at h2
                      exact_mod_cast h2
                    have hn0 : 0 < n := by have := (page_size hW hH).1; omega
                    by_cases h0 : ma * md - mb * mc = 0
                    · exact .inl ⟨14, fun W' hr => paint_det0 IW IH IB ma mb mc md me mf s rn m n c d A D (setOf L) W' hW hH hnn hs hi hm h0 (Rows.canon hr g4), fun W' hr => rpaint_det0 IW IH IB ma mb mc md me mf s rn m n c d A D (setOf L) W' hW hH hnn hs hi hm h0 (Rows.canon hr g4)⟩
                    · exact .inr ⟨_, _, pg_of_bytes hB hn0, fun W' hp hr => (paint_any IW IH IB ma mb mc md me mf _ s rn m n c d A D (setOf L) _ W' hW hH hnn hs hi hm rfl h0 hp (Rows.canon hr g4)).mono fun e w' ⟨g, f, _, h1, h2, h3⟩ => ⟨g, f, h1, h2, h3⟩,
                        fun W' hp hr => (rpaint_any IW IH IB ma mb mc md me mf _ s rn m n c d A D (setOf L) _ W' hW hH hnn hs hi hm rfl h0 hp (Rows.canon hr g4)).mono fun e w' ⟨g, f, _, h1, h2, h3⟩ => ⟨g, f, h1, h2, h3⟩⟩
                  · exact .inl ⟨1, fun W' hr => paint_no5 _ _ _ _ _ _ _ _ _ _ _ _ _ _ _ _ _ _ _ _ _ _ W' hr HL (Lib.hid HP1) (Lib.hid y1) g5 g6, fun W' hr => rpaint_no3 _ _ _ _ _ _ _ _ _ _ _ _ _ _ _ _ _ _ _ _ _ W' hr (Lib.hid HMI) (Lib.hid HMM) (Lib.hid fun W' hr => fair_no4 _ _ _ _ _ _ _ _ _ _ _ W' hr (Lib.hid HP2) (Lib.hid y2) g5 g6)⟩
                · exact .inl ⟨1, fun W' hr => paint_no4 _ _ _ _ _ _ _ _ _ _ _ _ _ _ _ _ _ _ _ _ _ _ W' hr HL (Lib.hid HP1) (Lib.hid y1) g5, fun W' hr => rpaint_no3 _ _ _ _ _ _ _ _ _ _ _ _ _ _ _ _ _ _ _ _ _ W' hr (Lib.hid HMI) (Lib.hid HMM) (Lib.hid fun W' hr => fair_no3 _ _ _ _ _ _ _ _ _ _ _ W' hr (Lib.hid HP2) (Lib.hid y2) g5)⟩
              · obtain ⟨k, k1, k2, k3⟩ := first_no g4
                exact .inl (no (fun W' hr => regmay_no4 _ _ _ k _ L W' g1 g2 hr k1 k2 k3) (fun W' hr => rregmay_no4 _ _ _ k _ L W' g1 g2 hr k1 k2 k3))
            · exact .inl (no (fun W' _ => regmay_no3 _ _ _ _ _ L W' g1 g2 g3) (fun W' _ => rregmay_no3 _ _ _ _ _ L W' g1 g2 g3))
theorem ipaints_law (IW IH IB : Int) (s : ByteArray) (ma mb mc md me mf : Int) (pw ph : Int) (A : Option Addr) (n c : Nat) (bs : List UInt8) (rw_ rh : Int) (D : Option Addr) (m d : Nat) (L : Nat → List (Int × Int)) (x y : Int) (w : World) (_bIW : -9223372036854775808 ≤ IW ∧ IW ≤ 9223372036854775807) (_bIH : -9223372036854775808 ≤ IH ∧ IH ≤ 9223372036854775807) (_bIB : -9223372036854775808 ≤ IB ∧ IB ≤ 9223372036854775807) (hs : (s.size : Int) ≤ 9223372036854775807) (_bma : -9223372036854775808 ≤ ma ∧ ma ≤ 9223372036854775807) (_bmb : -9223372036854775808 ≤ mb ∧ mb ≤ 9223372036854775807) (_bmc : -9223372036854775808 ≤ mc ∧ mc ≤ 9223372036854775807) (_bmd : -9223372036854775808 ≤ md ∧ md ≤ 9223372036854775807) (_bme : -9223372036854775808 ≤ me ∧ me ≤ 9223372036854775807) (_bmf : -9223372036854775808 ≤ mf ∧ mf ≤ 9223372036854775807) (_bpw : -9223372036854775808 ≤ pw ∧ pw ≤ 9223372036854775807) (_bph : -9223372036854775808 ≤ ph ∧ ph ≤ 9223372036854775807) (hB : Bytes w A n c bs) (hn : n ≤ 9223372036854775807) (_brw_ : -9223372036854775808 ≤ rw_ ∧ rw_ ≤ 9223372036854775807) (_brh : -9223372036854775808 ≤ rh ∧ rh ≤ 9223372036854775807) (hr : rg.Rows w D m d L) (hm : m ≤ 9223372036854775807) (_bx : -9223372036854775808 ≤ x ∧ x ≤ 9223372036854775807) (_by : -9223372036854775808 ≤ y ∧ y ≤ 9223372036854775807) :
    Calls Try.prog 7 #[.agg #[.int .i64 IW, .int .i64 IH, .int .i64 IB, .string s], .agg #[.int .i64 ma, .int .i64 mb, .int .i64 mc, .int .i64 md, .int .i64 me, .int .i64 mf], .agg #[.int .i64 pw, .int .i64 ph, .slice A n c], .agg #[.int .i64 rw_, .int .i64 rh, .slice D m d], .int .i64 x, .int .i64 y] w fun e w' => e = .returned (.bool true) ∧ Below w.heap.size w w' := by
  by_cases h1 : (20000 : Int) < (s.size : Int)
  · exact paints_big _ _ _ _ _ _ _ _ _ _ _ _ _ _ _ _ _ _ _ _ L _ _ w hr h1
  · by_cases h2 : 20 < x ∧ x ≤ 64
    · exact paints_wide _ _ _ _ _ _ _ _ _ _ _ _ _ _ _ _ _ _ _ _ L _ _ w hr (by omega) h2.1 h2.2
    · by_cases h3 : 20 < y ∧ y ≤ 64
      · exact paints_high _ _ _ _ _ _ _ _ _ _ _ _ _ _ _ _ _ _ _ _ L _ _ w hr (by omega) h2 h3.1 h3.2
      · rcases region_cases IW IH IB ma mb mc md me mf s x y hs with ⟨er, a1, a2⟩ | ⟨xn, yn, Q, e1, e2, hy1, a1, a2⟩
        · rcases paint_cases IW IH IB ma mb mc md me mf s pw ph rw_ rh n c m d A D L bs w hs hB hn with ⟨ep, b1, b2⟩ | ⟨Y, Y2, hp, b1, b2⟩
          · exact paints_err_err _ _ _ _ _ _ _ _ _ _ _ _ _ _ _ _ _ _ _ _ L _ _ w hr (by omega) h2 h3 er (Lib.hid a1) (Lib.hid a2) ep (Lib.hid b1) (Lib.hid b2)
          · exact paints_err_ok _ _ _ _ _ _ _ _ _ _ _ _ _ _ _ _ _ _ _ _ L _ _ w hr (by omega) h2 h3 er (Lib.hid a1) (Lib.hid a2) Y Y2 hp (Lib.hid b1) (Lib.hid b2)
        · rcases paint_cases IW IH IB ma mb mc md me mf s pw ph rw_ rh n c m d A D L bs w hs hB hn with ⟨ep, b1, b2⟩ | ⟨Y, Y2, hp, b1, b2⟩
          · exact paints_ok_err _ _ _ _ _ _ _ _ _ _ _ _ _ _ _ _ _ _ _ _ L _ _ w hr (by omega) h2 h3 xn yn Q e1 e2 hy1 (Lib.hid a1) (Lib.hid a2) ep (Lib.hid b1) (Lib.hid b2)
          · exact paints_ok_ok _ _ _ _ _ _ _ _ _ _ _ _ _ _ _ _ _ _ _ _ L _ _ w hr (by omega) h2 h3 xn yn Q e1 e2 hy1 (Lib.hid a1) (Lib.hid a2) Y Y2 hp (Lib.hid b1) (Lib.hid b2)
end Go.Proofs.Ytegpjjkbbdfggaa.im

/-
  How an argument that is a slice of runs is opened.
-/
namespace Go.Proofs.Ytegpjjkbbdfggaa.op
set_option linter.unusedVariables false
set_option linter.unusedSimpArgs false
open Go.ChangeShapes Go.WideShapes Go.Deep bs
section
variable {H : Type} {enc : TypeId × Value → H} {P : Program} {w : World} {base : Nat} {spare : Nat → Bool} {held : Bool}
theorem open_slice_fields {t e : TypeId} {fs : Array Field} {fuel : Nat} {cs : List Value} {x : DataW H × List MemPlace} (ht : P.underlying t = some (.slice e)) (he : P.underlying e = some (.struct fs))
    (hone : oneCellFields P fs = true) (hC : P.cellsOf e = fs.size) (h : DataW.trod enc P w base spare held fuel t cs = some x) :
    (cs = [.slice none 0 0] ∧ x = (.nil, [])) ∨
    ∃ (a : Addr) (len cap m : Nat) (D : Nat → DataW H) (Pl : Nat → List MemPlace), cs = [.slice (some a) len cap] ∧ base ≤ a.block ∧ len ≤ cap ∧ cap ≤ maxLen ∧ m = (if spare a.block then cap else len) ∧
      x = (.slice ((List.range len).map D) ((List.range (m - len)).map fun j => D (len + j)), MemPlace.row a (m * fs.size) ++ (List.range m).flatMap Pl) ∧
      ∀ i, i < m → ∃ (ys : List (DataW H × List MemPlace)) (n : Nat), D i = .agg (ys.map (·.1)) ∧ Pl i = ys.flatMap (·.2) ∧ ys.length = fs.size ∧
        ∀ (j : Nat) (f : Field), fs[j]? = some f → ∃ (v : Value) (y : DataW H × List MemPlace), w.cell? (a.add (i * fs.size + j)) = some v ∧ ys[j]? = some y ∧ DataW.trod enc P w base spare held n f.type [v] = some y := by
  rcases open_slice ht h with h0 | ⟨a, len, cap, m, n, D, Pl, hcs, hb, hl, hm, hmm, hx, hi⟩
  · exact .inl h0
  · refine .inr ⟨a, len, cap, m, D, Pl, hcs, hb, hl, hm, hmm, by rw [hC] at hx; exact hx, fun i him => ?_⟩
    obtain ⟨cs', hc, ht'⟩ := hi i him
    rw [hC] at hc
    obtain ⟨ys, n', hn', hy, hlen, hyl, hf⟩ := DataW.trod_struct he ht'
    obtain ⟨_, hcl, hat⟩ := World.cells?_some hc
    simp only [Prod.mk.injEq] at hy
    refine ⟨ys, n', hy.1, hy.2, hyl, fun j f hj => ?_⟩
    obtain ⟨ho, hk⟩ := hone_of hone j f hj
    have hjl : j < fs.size := (Array.getElem?_eq_some_iff.1 hj).1
    have hcell := hat j hjl
    have hv : cs'[j]? = some (cs'[j]'(by omega)) := List.getElem?_eq_getElem (by omega)
    have h1 := hf j f hj
    rw [ho, hk] at h1
    have hone' : (cs'.drop j).take 1 = [cs'[j]'(by omega)] := by
      rw [List.drop_eq_getElem_cons (by omega)]
      rfl
    rw [hone'] at h1
    have hys : ys[j]? = some (ys[j]'(by omega)) := List.getElem?_eq_getElem (by omega)
    refine ⟨_, _, ?_, hys, h1.trans hys⟩
    rw [← Go.Deep.add_add, hcell, hv]
end

section
variable {H : Type} {enc : TypeId × Value → H} {w : World} {r : Reach} {b0 : Nat} {v : Value} {d : DataW H} {p : List MemPlace}
theorem lt_of_cell {w : World} {a : Addr} {v : Value} (h : w.cell? a = some v) : a.block < w.heap.size := block_lt_of_cell h
set_option maxRecDepth 100000 in
theorem open_runs (hv : Value.okWide Try.prog w r b0 107 v) (h : DataW.Trod enc Try.prog w 0 (fun _ => true) true 107 v d p) :
    ∃ (A : Option Addr) (n c : Nat) (l : List (Int × Int)), v = .slice A n c ∧ sp.Runs w A n c l ∧ n ≤ 9223372036854775807 := by
  obtain ⟨A, n, c, rfl⟩ := okWide_slice Try.underlying107 hv
  obtain ⟨fuel, hf⟩ := h
  have hft : DataW.trod enc Try.prog w 0 (fun _ => true) true fuel 107 [.slice A n c] = some (d, p) := by simpa [Value.cells] using hf
  rcases open_slice_fields (fs := Try.prog.fieldsOf 109) Try.underlying107 (by kernel_rfl) (by kernel_rfl) (by kernel_rfl) hft with ⟨hcs, _⟩ | ⟨a, len, cap, m, D, Pl, hcs, _, hlc, hmx, hm, _, hi⟩
  · simp only [List.cons.injEq, Value.slice.injEq, and_true] at hcs
    obtain ⟨rfl, rfl, rfl⟩ := hcs
    exact ⟨none, 0, 0, [], rfl, sp.Runs.nil_, by omega⟩
  · simp only [List.cons.injEq, Value.slice.injEq, and_true] at hcs
    obtain ⟨hA, hn0, hc0⟩ := hcs
    subst hA hn0 hc0
    rw [if_pos rfl] at hm
    rw [hm] at hi
    have hfs : (Try.prog.fieldsOf 109).map (·.type) = #[3, 3] := by kernel_rfl
    have hsz : (Try.prog.fieldsOf 109).size = 2 := by kernel_rfl
    have key : ∀ i, i < c → ∃ x y : Int, w.cell? (a.add (i * 2)) = some (.int .i64 x) ∧ w.cell? (a.add (i * 2 + 1)) = some (.int .i64 y) := by
      intro i hic
      obtain ⟨ys, k, _, _, hyl, hf2⟩ := hi i hic
      rw [hsz] at hf2
      have f0 : (Try.prog.fieldsOf 109)[0]? = some ((Try.prog.fieldsOf 109)[0]'(by rw [hsz]; omega)) := Array.getElem?_eq_getElem _
      have f1 : (Try.prog.fieldsOf 109)[1]? = some ((Try.prog.fieldsOf 109)[1]'(by rw [hsz]; omega)) := Array.getElem?_eq_getElem _
      have t0 : ((Try.prog.fieldsOf 109)[0]'(by rw [hsz]; omega)).type = 3 := by
        have := congrArg (·[0]?) hfs
        simpa [hsz] using this
      have t1 : ((Try.prog.fieldsOf 109)[1]'(by rw [hsz]; omega)).type = 3 := by
        have := congrArg (·[1]?) hfs
        simpa [hsz] using this
      obtain ⟨v0, y0, g0, _, h0⟩ := hf2 0 _ f0
      obtain ⟨v1, y1, g1, _, h1⟩ := hf2 1 _ f1
      rw [t0] at h0
      rw [t1] at h1
      obtain ⟨x, e0, _, _⟩ := DataW.trod_int Try.underlying3 h0
      obtain ⟨y, e1, _, _⟩ := DataW.trod_int Try.underlying3 h1
      simp only [List.cons.injEq, and_true] at e0 e1
      subst e0 e1
      exact ⟨x, y, g0, g1⟩
    have hx : ∃ f : Nat → Int × Int, ∀ i, i < c → w.cell? (a.add (i * 2)) = some (.int .i64 (f i).1) ∧ w.cell? (a.add (i * 2 + 1)) = some (.int .i64 (f i).2) := by
      refine ⟨fun i => if h : i < c then (Classical.choose (key i h), Classical.choose (Classical.choose_spec (key i h))) else (0, 0), fun i hic => ?_⟩
      simp only [dif_pos hic]
      exact Classical.choose_spec (Classical.choose_spec (key i hic))
    obtain ⟨f, hx⟩ := hx
    refine ⟨some a, n, c, (List.range n).map f, rfl, ⟨by simp, hlc, fun hn => ?_⟩, by unfold maxLen at hmx; omega⟩
    obtain ⟨b, o, spot⟩ := a
    have hspot : spot = none := by simpa [Addr.add] using World.cell?_spot (hx 0 (by omega)).1
    subst hspot
    have hlt := lt_of_cell (hx 0 (by omega)).1
    rw [block_of_add] at hlt
    refine ⟨b, o, rfl, hlt, fun j hj => ?_⟩
    obtain ⟨g1, g2⟩ := hx j (by have : j < n := by simpa using hj
                                omega)
    rw [Go.WideShapes.add_plain] at g1 g2
    simp only [List.getElem_map, List.getElem_range]
    exact ⟨g1, by rw [Nat.add_assoc]; exact g2⟩
end
end Go.Proofs.Ytegpjjkbbdfggaa.op

/-
  How an argument that is a page (two numbers and bytes) is opened. (PRUNE)
-/
namespace Go.Proofs.Ytegpjjkbbdfggaa.op
set_option linter.unusedVariables false
set_option linter.unusedSimpArgs false
open Go.ChangeShapes Go.WideShapes Go.ChangeAt Go.RowKit Go.Joins Go.Deep bs
section
variable {H : Type} {enc : TypeId × Value → H} {w : World} {r : Reach} {b0 : Nat} {v : Value} {d : DataW H} {p : List MemPlace}
set_option maxRecDepth 100000 in
theorem bytes_of {fuel : Nat} {A : Option Addr} {n c : Nat} {x : DataW H × List MemPlace} (hft : DataW.trod enc Try.prog w 0 (fun _ => true) true fuel 44 [.slice A n c] = some x) :
    ∃ bs : List UInt8, Bytes w A n c bs ∧ n ≤ 9223372036854775807 := by
  have hC : Try.prog.cellsOf 5 = 1 := by kernel_rfl
  rcases open_slice Try.underlying44 hft with ⟨hcs, _⟩ | ⟨a, len, cap, m, k, D, Pl, hcs, _, hlc, hmx, hm, _, hi⟩
  · simp only [List.cons.injEq, Value.slice.injEq, and_true] at hcs
    obtain ⟨rfl, rfl, rfl⟩ := hcs
    exact ⟨[], Bytes.nil_, by omega⟩
  · simp only [List.cons.injEq, Value.slice.injEq, and_true] at hcs
    obtain ⟨hA, hn0, hc0⟩ := hcs
    subst hA hn0 hc0
    rw [if_pos rfl] at hm
    rw [hm] at hi
    have key : ∀ i, i < c → ∃ x : UInt8, w.cell? (a.add i) = some (.int .u8 (x.toNat : Int)) := by
      intro i hic
      obtain ⟨cs', hc, ht'⟩ := hi i hic
      rw [hC] at hc
      obtain ⟨_, hcl, hat⟩ := World.cells?_some hc
      obtain ⟨x, e0, _, w0⟩ := DataW.trod_int Try.underlying5 ht'
      have hb := bd_u8 w0
      have h0 := hat 0 (by omega)
      subst e0
      simp only [Nat.mul_one, Nat.add_zero, Go.Deep.add_add] at h0
      exact ⟨UInt8.ofNat x.toNat, by rw [u8_of x hb.1 hb.2]; simpa using h0⟩
    obtain ⟨f, hx⟩ : ∃ f : Nat → UInt8, ∀ i, i < c → w.cell? (a.add i) = some (.int .u8 ((f i).toNat : Int)) := by
      refine ⟨fun i => if h : i < c then Classical.choose (key i h) else 0, fun i hic => ?_⟩
      simp only [dif_pos hic]
      exact Classical.choose_spec (key i hic)
    refine ⟨(List.range n).map f, ⟨by simp, hlc, fun hn => ?_⟩, by unfold maxLen at hmx; omega⟩
    obtain ⟨b, o, spot⟩ := a
    have hspot : spot = none := by simpa [Addr.add] using World.cell?_spot (hx 0 (by omega))
    subst hspot
    have hlt := block_lt_of_cell (hx 0 (by omega))
    rw [block_of_add] at hlt
    refine ⟨b, o, rfl, hlt, fun j hj => ?_⟩
    have g1 := hx j (by have : j < n := by simpa using hj
                        omega)
    rw [Go.WideShapes.add_plain] at g1
    simp only [List.getElem_map, List.getElem_range]
    exact g1
set_option maxRecDepth 100000 in
theorem open_page (hv : Value.okWide Try.prog w r b0 46 v) (h : DataW.Trod enc Try.prog w 0 (fun _ => true) true 46 v d p) :
    ∃ (W H : Int) (A : Option Addr) (n c : Nat) (bs : List UInt8), v = .agg #[.int .i64 W, .int .i64 H, .slice A n c] ∧ (-9223372036854775808 ≤ W ∧ W ≤ 9223372036854775807) ∧ (-9223372036854775808 ≤ H ∧ H ≤ 9223372036854775807) ∧ Bytes w A n c bs ∧ n ≤ 9223372036854775807 := by
  obtain ⟨v0, v1, v2, y0, y1, y2, n, rfl, rfl, rfl, h0, h1, h2⟩ := open_agg3 Try.underlying46 (by kernel_rfl) (by kernel_rfl) hv h
  obtain ⟨x0, e0, _, w0⟩ := DataW.trod_int Try.underlying3 h0
  obtain ⟨x1, e1, _, w1⟩ := DataW.trod_int Try.underlying3 h1
  simp only [List.cons.injEq, and_true] at e0 e1
  subst e0 e1
  have hsl : ∃ A n c, v2 = .slice A n c := by
    rcases open_slice Try.underlying44 h2 with ⟨hcs, _⟩ | ⟨a, len, cap, m, k, D, Pl, hcs, _⟩
    · simp only [List.cons.injEq, and_true] at hcs; exact ⟨_, _, _, hcs⟩
    · simp only [List.cons.injEq, and_true] at hcs; exact ⟨_, _, _, hcs⟩
  obtain ⟨A, n2, c, rfl⟩ := hsl
  obtain ⟨bs, hb, hn⟩ := bytes_of h2
  exact ⟨x0, x1, A, n2, c, bs, rfl, bd_i64 w0, bd_i64 w1, hb, hn⟩
end 
end Go.Proofs.Ytegpjjkbbdfggaa.op

/-
  How an argument that is a region (two numbers and rows of runs) is opened.
-/
namespace Go.Proofs.Ytegpjjkbbdfggaa.op
set_option linter.unusedVariables false
set_option linter.unusedSimpArgs false
open Go.ChangeShapes Go.WideShapes Go.ChangeAt Go.RowKit Go.Joins Go.Deep bs
section
variable {H : Type} {enc : TypeId × Value → H} {w : World} {r : Reach} {b0 : Nat} {v : Value} {d : DataW H} {p : List MemPlace}
set_option maxRecDepth 100000 in
theorem runs_of {fuel : Nat} {A : Option Addr} {n c : Nat} {x : DataW H × List MemPlace} (hft : DataW.trod enc Try.prog w 0 (fun _ => true) true fuel 107 [.slice A n c] = some x) :
    ∃ l : List (Int × Int), sp.Runs w A n c l ∧ n ≤ 9223372036854775807 := by
  rcases open_slice_fields (fs := Try.prog.fieldsOf 109) Try.underlying107 (by kernel_rfl) (by kernel_rfl) (by kernel_rfl) hft with ⟨hcs, _⟩ | ⟨a, len, cap, m, D, Pl, hcs, _, hlc, hmx, hm, _, hi⟩
  · simp only [List.cons.injEq, Value.slice.injEq, and_true] at hcs
    obtain ⟨rfl, rfl, rfl⟩ := hcs
    exact ⟨[], sp.Runs.nil_, by omega⟩
  · simp only [List.cons.injEq, Value.slice.injEq, and_true] at hcs
    obtain ⟨hA, hn0, hc0⟩ := hcs
    subst hA hn0 hc0
    rw [if_pos rfl] at hm
    rw [hm] at hi
    have hfs : (Try.prog.fieldsOf 109).map (·.type) = #[3, 3] := by kernel_rfl
    have hsz : (Try.prog.fieldsOf 109).size = 2 := by kernel_rfl
    have key : ∀ i, i < c → ∃ x y : Int, w.cell? (a.add (i * 2)) = some (.int .i64 x) ∧ w.cell? (a.add (i * 2 + 1)) = some (.int .i64 y) := by
      intro i hic
      obtain ⟨ys, k, _, _, hyl, hf2⟩ := hi i hic
      rw [hsz] at hf2
      have f0 : (Try.prog.fieldsOf 109)[0]? = some ((Try.prog.fieldsOf 109)[0]'(by rw [hsz]; omega)) := Array.getElem?_eq_getElem _
      have f1 : (Try.prog.fieldsOf 109)[1]? = some ((Try.prog.fieldsOf 109)[1]'(by rw [hsz]; omega)) := Array.getElem?_eq_getElem _
      have t0 : ((Try.prog.fieldsOf 109)[0]'(by rw [hsz]; omega)).type = 3 := by
        have := congrArg (·[0]?) hfs
        simpa [hsz] using this
      have t1 : ((Try.prog.fieldsOf 109)[1]'(by rw [hsz]; omega)).type = 3 := by
        have := congrArg (·[1]?) hfs
        simpa [hsz] using this
      obtain ⟨v0, y0, g0, _, h0⟩ := hf2 0 _ f0
      obtain ⟨v1, y1, g1, _, h1⟩ := hf2 1 _ f1
      rw [t0] at h0
      rw [t1] at h1
      obtain ⟨x, e0, _, _⟩ := DataW.trod_int Try.underlying3 h0
      obtain ⟨y, e1, _, _⟩ := DataW.trod_int Try.underlying3 h1
      simp only [List.cons.injEq, and_true] at e0 e1
      subst e0 e1
      exact ⟨x, y, g0, g1⟩
    have hx : ∃ f : Nat → Int × Int, ∀ i, i < c → w.cell? (a.add (i * 2)) = some (.int .i64 (f i).1) ∧ w.cell? (a.add (i * 2 + 1)) = some (.int .i64 (f i).2) := by
      refine ⟨fun i => if h : i < c then (Classical.choose (key i h), Classical.choose (Classical.choose_spec (key i h))) else (0, 0), fun i hic => ?_⟩
      simp only [dif_pos hic]
      exact Classical.choose_spec (Classical.choose_spec (key i hic))
    obtain ⟨f, hx⟩ := hx
    refine ⟨(List.range n).map f, ⟨by simp, hlc, fun hn => ?_⟩, by unfold maxLen at hmx; omega⟩
    obtain ⟨b, o, spot⟩ := a
    have hspot : spot = none := by simpa [Addr.add] using World.cell?_spot (hx 0 (by omega)).1
    subst hspot
    have hlt := lt_of_cell (hx 0 (by omega)).1
    rw [block_of_add] at hlt
    refine ⟨b, o, rfl, hlt, fun j hj => ?_⟩
    obtain ⟨g1, g2⟩ := hx j (by have : j < n := by simpa using hj
                                omega)
    rw [Go.WideShapes.add_plain] at g1 g2
    simp only [List.getElem_map, List.getElem_range]
    exact ⟨g1, by rw [Nat.add_assoc]; exact g2⟩
set_option maxRecDepth 100000 in
theorem rows_of {fuel : Nat} {A : Option Addr} {n c : Nat} {x : DataW H × List MemPlace} (hft : DataW.trod enc Try.prog w 0 (fun _ => true) true fuel 49 [.slice A n c] = some x) :
    ∃ L : Nat → List (Int × Int), rg.Rows w A n c L ∧ n ≤ 9223372036854775807 := by
  have hC : Try.prog.cellsOf 107 = 1 := by kernel_rfl
  rcases open_slice Try.underlying49 hft with ⟨hcs, _⟩ | ⟨a, len, cap, m, k, D, Pl, hcs, _, hlc, hmx, hm, _, hi⟩
  · simp only [List.cons.injEq, Value.slice.injEq, and_true] at hcs
    obtain ⟨rfl, rfl, rfl⟩ := hcs
    exact ⟨fun _ => [], ⟨by omega, fun h => absurd h (by omega)⟩, by omega⟩
  · simp only [List.cons.injEq, Value.slice.injEq, and_true] at hcs
    obtain ⟨hA, hn0, hc0⟩ := hcs
    subst hA hn0 hc0
    rw [if_pos rfl] at hm
    rw [hm] at hi
    have key : ∀ i, i < c → ∃ (l : List (Int × Int)) (Aj : Option Addr) (cj : Nat), w.cell? (a.add i) = some (.slice Aj l.length cj) ∧ sp.Runs w Aj l.length cj l ∧ l.length ≤ 9223372036854775807 := by
      intro i hic
      obtain ⟨cs', hc, ht'⟩ := hi i hic
      rw [hC] at hc
      obtain ⟨_, hcl, hat⟩ := World.cells?_some hc
      have h0 := hat 0 (by omega)
      have hsl : ∃ A n c, cs' = [.slice A n c] := by
        rcases open_slice Try.underlying107 ht' with ⟨hcs, _⟩ | ⟨a, len, cap, m, k, D, Pl, hcs, _⟩
        · exact ⟨_, _, _, hcs⟩
        · exact ⟨_, _, _, hcs⟩
      obtain ⟨Aj, nj, cj, rfl⟩ := hsl
      obtain ⟨l, hl, hn⟩ := runs_of ht'
      have hll : nj = l.length := hl.1.symm
      subst hll
      simp only [Nat.mul_one, Nat.add_zero, Go.Deep.add_add] at h0
      exact ⟨l, Aj, cj, by simpa using h0, hl, hn⟩
    obtain ⟨f, hx⟩ : ∃ f : Nat → List (Int × Int), ∀ i, i < c → ∃ (Aj : Option Addr) (cj : Nat), w.cell? (a.add i) = some (.slice Aj (f i).length cj) ∧ sp.Runs w Aj (f i).length cj (f i) ∧ (f i).length ≤ 9223372036854775807 := by
      refine ⟨fun i => if h : i < c then Classical.choose (key i h) else [], fun i hic => ?_⟩
      simp only [dif_pos hic]
      exact Classical.choose_spec (key i hic)
    refine ⟨f, ⟨hlc, fun hn => ?_⟩, by unfold maxLen at hmx; omega⟩
    obtain ⟨b, o, spot⟩ := a
    obtain ⟨A0, c0, q0, _⟩ := hx 0 (by omega)
    have hspot : spot = none := by simpa [Addr.add] using World.cell?_spot q0
    subst hspot
    have hlt := block_lt_of_cell q0
    rw [block_of_add] at hlt
    refine ⟨b, o, rfl, hlt, fun j hj => ?_⟩
    obtain ⟨Aj, cj, q1, q2, q3⟩ := hx j (by omega)
    rw [Go.WideShapes.add_plain] at q1
    exact ⟨q3, Aj, cj, q1, q2⟩
set_option maxRecDepth 100000 in
theorem open_region (hv : Value.okWide Try.prog w r b0 51 v) (h : DataW.Trod enc Try.prog w 0 (fun _ => true) true 51 v d p) :
    ∃ (W H : Int) (A : Option Addr) (n c : Nat) (L : Nat → List (Int × Int)), v = .agg #[.int .i64 W, .int .i64 H, .slice A n c] ∧ (-9223372036854775808 ≤ W ∧ W ≤ 9223372036854775807) ∧ (-9223372036854775808 ≤ H ∧ H ≤ 9223372036854775807) ∧ rg.Rows w A n c L ∧ n ≤ 9223372036854775807 := by
  obtain ⟨v0, v1, v2, y0, y1, y2, n, rfl, rfl, rfl, h0, h1, h2⟩ := open_agg3 Try.underlying51 (by kernel_rfl) (by kernel_rfl) hv h
  obtain ⟨x0, e0, _, w0⟩ := DataW.trod_int Try.underlying3 h0
  obtain ⟨x1, e1, _, w1⟩ := DataW.trod_int Try.underlying3 h1
  simp only [List.cons.injEq, and_true] at e0 e1
  subst e0 e1
  have hsl : ∃ A n c, v2 = .slice A n c := by
    rcases open_slice Try.underlying49 h2 with ⟨hcs, _⟩ | ⟨a, len, cap, m, k, D, Pl, hcs, _⟩
    · simp only [List.cons.injEq, and_true] at hcs; exact ⟨_, _, _, hcs⟩
    · simp only [List.cons.injEq, and_true] at hcs; exact ⟨_, _, _, hcs⟩
  obtain ⟨A, n2, c, rfl⟩ := hsl
  obtain ⟨L, hb, hn⟩ := rows_of h2
  exact ⟨x0, x1, A, n2, c, L, rfl, bd_i64 w0, bd_i64 w1, hb, hn⟩
end
end Go.Proofs.Ytegpjjkbbdfggaa.op
