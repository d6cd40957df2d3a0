/-
  Layer 7: the contract of quote's last.
-/
import Derived.Test.YtdonjnngohmknaaQHex
namespace Go.Proofs.Ytdonjnngohmknaa.qt
set_option linter.unusedVariables false
set_option linter.unusedSimpArgs false
open Go.RowKit bs lf ch

/-- what last leaves -/
def LastPost (T : Nat) (b g : List UInt8) (w : World) (e : Ending) (w' : World) : Prop := Below T w w' ∧
  ((e = .returned (.bool true) ∧ ∃ b', TK w' T b' 0 ∧ ∀ n, lastR g b n = (b', (n : Int), 0)) ∨ (e = .returned (.bool false) ∧ ((TK w' T b 0 ∧ ∀ n, lastR g b n = bad 3) ∨ (TK w' T b 5 ∧ ∀ n, lastR g b n = bad 5))))
theorem number_fill_digits {g : List UInt8} (hd : ∀ j, j < g.length → 33 ≤ ((g.getD j 0).toNat : Int)) (m : Nat) : ∀ j, j < g.length + m → 33 ≤ (((g ++ List.replicate m 117).getD j 0).toNat : Int) := by
  intro j hj
  by_cases h : j < g.length
  · have e : (g ++ List.replicate m 117).getD j 0 = g.getD j 0 := by simp [List.getD, List.getElem?_append_left h]
    rw [e]; exact hd j h
  · have e : (g ++ List.replicate m 117).getD j 0 = 117 := by
      rw [List.getD_eq_getElem?_getD, List.getElem?_append_right (by omega), List.getElem?_replicate, if_pos (by omega)]; rfl
    rw [e]; decide

theorem LB.arr (w : World) (t : TypeId) (cs : Array Value) (k n : Nat) (l : List UInt8) (h : cs.toList = vals l) (hn : l.length = n) (hk : k ≤ n) : LB (w.alloc (.cells cs t)) (some ⟨w.heap.size, 0, none⟩) k n (l.take k) := by
  refine ⟨Bytes.of_blk (Blk.new w _ cs) (by simp; omega) hk (fun j hj => ?_), .inr ⟨_, _, rfl, by simp⟩⟩
  have hj' : j < l.length := by simp at hj; omega
  rw [← Array.getElem?_toList, h]
  simp [vals, List.getElem?_eq_getElem hj']
theorem last_val {g b : List UInt8} {v k : Nat} (hv : number (fill g) = v) (hok : v < 4294967296) (hg : g.length = k + 1) (hk : 1 ≤ k) (n : Nat) : lastR g b n = if 4000 < b.length + k then bad 5 else (b ++ (bytes4 v).take k, (n : Int), 0) := by
  rw [lastR, if_neg (by rintro rfl; simp at hg), if_neg (by rw [hv]; omega), hv, hg]; rfl
set_option maxRecDepth 100000 in
set_option maxHeartbeats 800000 in
theorem last_any (T : Nat) (b g : List UInt8) (A : Option Addr) (n c : Nat) (w0 w : World) (hn : g.length = n) (h4 : n ≤ 4) (ht : TK w0 T b 0) (hb0 : Below w0.heap.size w0 w) (ho : OwnB w w0.heap.size (.slice A n c) g) (hd : ∀ j, j < g.length → 33 ≤ ((g.getD j 0).toNat : Int)) (hbl : b.length ≤ 4000) :
    Calls Try.prog 35 #[.pointer (some ⟨T, 0, none⟩), .slice A n c] w (LastPost T b g w) := by
  have htw := ht.below hb0
  have hT := ht.lt
  have hsz := hb0.size
  by_cases hn0 : n = 0
  · subst hn0
    have hg : g = [] := List.eq_nil_of_length_eq_zero hn
    have HT := Lib.hid htw
    have HG := Lib.hid hg
    clear htw ho hd hn hg ht hb0
    go_enter Try.func35, Try.ntmps35
    go_wp2_with fail
    go_ret
    exact ⟨Below.refl _ _, .inl ⟨rfl, b, HT.out, fun n => by rw [lastR, if_pos HG.out]⟩⟩
  · have d1 : decide ((n : Int) - 1 < 0) = false := by simp; omega
    have HD := Lib.hid (number_fill_digits hd)
    have HN := Lib.hid hn
    have HT := Lib.hid ht
    have HB := Lib.hid hb0
    have HO := Lib.hid ho
    clear ho hd hn ht hb0 htw
    go_enter Try.func35, Try.ntmps35
    go_wp2_with fail
    go_loopw [1] (fun gv wr => ∃ A c, ∃ m : Nat, n + m ≤ 5 ∧ gv = .slice A (n + m) c ∧ Hid (OwnB wr w0.heap.size (.slice A (n + m) c) (g ++ List.replicate m 117)) ∧ Hid (Below w0.heap.size w0 wr) ∧ Hid (Below w0.heap.size w wr)) (fun gv _ => 5 - (match gv with | .slice _ k _ => k | _ => 0))
    case atStart => exact ⟨A, c, 0, by omega, rfl, Lib.hid (by simpa using HO.out), HB, Lib.hid (Below.refl _ _)⟩
    case round =>
      obtain ⟨A, c, m, hm, rfl, HO, HB, HB2⟩ := hrel
      obtain ⟨wo, rfl⟩ : ∃ wo, wo = wr := ⟨_, rfl⟩
      by_cases hlt : n + m < 5
      · have d2 : decide ((n : Int) + (m : Int) < 5) = true := by simp; omega
        have hsw := HB.out.size
        go_wp2_with fail
        refine (put_any w0.heap.size _ (g ++ List.replicate m 117) (some ⟨_, 0, none⟩) 1 1 [117] _ (HO.out.below (balloc (Below.refl _ _) _)) (LB.new _ _ 1 [117] rfl rfl) (by simp; omega) (by simp [HN.out]; omega)).mono ?_
        rintro e_ w1 ⟨v', rfl, ho1, hb1⟩
        obtain ⟨A2, c2, rfl, hl2⟩ := ho1.lb
        have hlen : (g ++ List.replicate m 117 ++ [117]).length = n + (m + 1) := by rw [List.length_append, List.length_append, List.length_replicate, HN.out]; simp; omega
        have hrep : g ++ List.replicate m 117 ++ [117] = g ++ List.replicate (m + 1) 117 := by rw [List.append_assoc]; congr 1; exact (List.replicate_succ' (n := m) (a := (117 : UInt8))).symm
        rw [hlen, hrep] at ho1
        have HO1 := Lib.hid ho1
        have HB1 := Lib.hid ((HB.out.alloc hsw _).trans hb1)
        have HB3 := Lib.hid ((HB2.out.alloc hsw _).trans hb1)
        rw [hlen]
        clear ho1 hb1 hl2 hlen hrep
        go_wp2_with fail
        go_roundw
        case rel => exact ⟨A2, c2, m + 1, by omega, rfl, HO1, HB1, HB3⟩
        case measure => simp; omega
      · have hm5 : 5 ≤ n + m := by omega
        have d2 : decide ((n : Int) + (m : Int) < 5) = false := by simp; omega
        obtain ⟨A3, c3, hl3, hlb⟩ := HO.out.lb
        have hlen : (g ++ List.replicate m 117).length = n + m := by simp [HN.out]
        rw [hlen] at hl3 hlb
        injection hl3 with e1 e2 e3
        subst e1 e3
        have hm9 : 5 - g.length = m := by rw [HN.out]; omega
        have HF := Lib.hid (show g ++ List.replicate m 117 = fill g by unfold fill; rw [hm9])
        have HNU := Lib.hid (number_any A (n + m) c _ wo hlb (by omega) (by omega) (by rw [← HN.out]; exact HD.out m))
        have hnb := number_bound (g ++ List.replicate m 117) (by rw [hlen]; omega)
        obtain ⟨v, hv⟩ : ∃ v, number (g ++ List.replicate m 117) = v := ⟨_, rfl⟩
        rw [hv] at HNU hnb
        have hv2 := hv
        rw [HF.out] at hv2
        have HV := Lib.hid hv2
        have HTW := Lib.hid (HT.out.below HB.out)
        have hbt := HB2.out.mono (show T ≤ w0.heap.size by omega)
        have HBT := Lib.hid hbt
        clear e2 hv hv2 hlen hlb hbt hm9
        by_cases hok : v < 4294967296
        · have d3 : decide (v < 4294967296) = true := by simpa using hok
          rw [d3] at HNU
          by_cases hn1 : n = 1
          · have d4 : ((n : Int) - 1 == 0) = true := by simp; omega
            have HN1 := Lib.hid hn1
            clear hn1
            go_wp2_with (go_at_call 36; refine (HNU.out).mono ?_; rintro e_ w_ ⟨rfl, rfl⟩)
            go_ret
            exact ⟨HBT.out, .inr ⟨rfl, .inl ⟨HTW.out, fun k => by rw [lastR, if_neg (by rintro rfl; have := HN.out; simp at this; omega), if_pos (Or.inr (by rw [HN.out]; exact HN1.out))]⟩⟩⟩
          · have d4 : ((n : Int) - 1 == 0) = false := by simp; omega
            have hvv : (v : Int) ≤ 4294967295 := by omega
            have hn234 : n = 2 ∨ n = 3 ∨ n = 4 := by omega
            have HOK := Lib.hid hok
            clear hn1 d4 h4 hok hm hlt
            have hcs : ∀ k, k ≤ 4 → ∀ (W : World), LB (W.alloc (.cells #[.int .u8 ((v : Int) / 16777216), .int .u8 ((v : Int) / 65536 % 256), .int .u8 ((v : Int) / 256 % 256), .int .u8 ((v : Int) % 256)] 66)) (some ⟨W.heap.size, 0, none⟩) k 4 ((bytes4 v).take k) := fun k hk W => LB.arr W _ _ k 4 (bytes4 v) (by simp [vals, bytes4]; omega) rfl hk
            have HCS := Lib.hid hcs
            clear hcs
            rcases hn234 with rfl | rfl | rfl
            · go_wp2_with (go_at_call 36; refine (HNU.out).mono ?_; rintro e_ w_ ⟨rfl, rfl⟩)
              by_cases hl : b.length + 1 ≤ 4000
              · refine (add_yes T b 0 (some ⟨_, 0, none⟩) 1 4 _ _ (HTW.out.below (balloc (Below.refl _ _) _)) (HCS.out 1 (by omega) _) hl).mono ?_
                rintro e_ w1 ⟨rfl, ht1, hb1⟩
                have HT1 := Lib.hid ht1
                have HB1 := Lib.hid ((HBT.out.alloc (Nat.le_of_lt HTW.out.lt) _).trans hb1)
                clear ht1 hb1
                go_wp2_with fail
                go_ret
                exact ⟨HB1.out, .inl ⟨rfl, _, HT1.out, fun q => by rw [last_val (k := 1) HV.out HOK.out HN.out (by omega), if_neg (by omega)]⟩⟩
              · refine (add_no T b 0 (some ⟨_, 0, none⟩) 1 4 _ _ (HTW.out.below (balloc (Below.refl _ _) _)) (HCS.out 1 (by omega) _) (by omega) (by omega) (by omega)).mono ?_
                rintro e_ w1 ⟨rfl, ht1, hb1⟩
                have HT1 := Lib.hid ht1
                have HB1 := Lib.hid ((HBT.out.alloc (Nat.le_of_lt HTW.out.lt) _).trans hb1)
                clear ht1 hb1
                go_wp2_with fail
                go_ret
                exact ⟨HB1.out, .inr ⟨rfl, .inr ⟨HT1.out, fun q => by rw [last_val (k := 1) HV.out HOK.out HN.out (by omega), if_pos (by omega)]⟩⟩⟩
            · go_wp2_with (go_at_call 36; refine (HNU.out).mono ?_; rintro e_ w_ ⟨rfl, rfl⟩)
              by_cases hl : b.length + 2 ≤ 4000
              · refine (add_yes T b 0 (some ⟨_, 0, none⟩) 2 4 _ _ (HTW.out.below (balloc (Below.refl _ _) _)) (HCS.out 2 (by omega) _) hl).mono ?_
                rintro e_ w1 ⟨rfl, ht1, hb1⟩
                have HT1 := Lib.hid ht1
                have HB1 := Lib.hid ((HBT.out.alloc (Nat.le_of_lt HTW.out.lt) _).trans hb1)
                clear ht1 hb1
                go_wp2_with fail
                go_ret
                exact ⟨HB1.out, .inl ⟨rfl, _, HT1.out, fun q => by rw [last_val (k := 2) HV.out HOK.out HN.out (by omega), if_neg (by omega)]⟩⟩
              · refine (add_no T b 0 (some ⟨_, 0, none⟩) 2 4 _ _ (HTW.out.below (balloc (Below.refl _ _) _)) (HCS.out 2 (by omega) _) (by omega) (by omega) (by omega)).mono ?_
                rintro e_ w1 ⟨rfl, ht1, hb1⟩
                have HT1 := Lib.hid ht1
                have HB1 := Lib.hid ((HBT.out.alloc (Nat.le_of_lt HTW.out.lt) _).trans hb1)
                clear ht1 hb1
                go_wp2_with fail
                go_ret
                exact ⟨HB1.out, .inr ⟨rfl, .inr ⟨HT1.out, fun q => by rw [last_val (k := 2) HV.out HOK.out HN.out (by omega), if_pos (by omega)]⟩⟩⟩
            · go_wp2_with (go_at_call 36; refine (HNU.out).mono ?_; rintro e_ w_ ⟨rfl, rfl⟩)
              by_cases hl : b.length + 3 ≤ 4000
              · refine (add_yes T b 0 (some ⟨_, 0, none⟩) 3 4 _ _ (HTW.out.below (balloc (Below.refl _ _) _)) (HCS.out 3 (by omega) _) hl).mono ?_
                rintro e_ w1 ⟨rfl, ht1, hb1⟩
                have HT1 := Lib.hid ht1
                have HB1 := Lib.hid ((HBT.out.alloc (Nat.le_of_lt HTW.out.lt) _).trans hb1)
                clear ht1 hb1
                go_wp2_with fail
                go_ret
                exact ⟨HB1.out, .inl ⟨rfl, _, HT1.out, fun q => by rw [last_val (k := 3) HV.out HOK.out HN.out (by omega), if_neg (by omega)]⟩⟩
              · refine (add_no T b 0 (some ⟨_, 0, none⟩) 3 4 _ _ (HTW.out.below (balloc (Below.refl _ _) _)) (HCS.out 3 (by omega) _) (by omega) (by omega) (by omega)).mono ?_
                rintro e_ w1 ⟨rfl, ht1, hb1⟩
                have HT1 := Lib.hid ht1
                have HB1 := Lib.hid ((HBT.out.alloc (Nat.le_of_lt HTW.out.lt) _).trans hb1)
                clear ht1 hb1
                go_wp2_with fail
                go_ret
                exact ⟨HB1.out, .inr ⟨rfl, .inr ⟨HT1.out, fun q => by rw [last_val (k := 3) HV.out HOK.out HN.out (by omega), if_pos (by omega)]⟩⟩⟩
        · have d3 : decide (v < 4294967296) = false := by simpa using hok
          rw [d3] at HNU
          go_wp2_with (go_at_call 36; refine (HNU.out).mono ?_; rintro e_ w_ ⟨rfl, rfl⟩)
          go_ret
          exact ⟨HBT.out, .inr ⟨rfl, .inl ⟨HTW.out, fun k => by rw [lastR, if_neg (by rintro rfl; have := HN.out; simp at this; omega), if_pos (Or.inl (by rw [HV.out]; omega))]⟩⟩⟩
end Go.Proofs.Ytdonjnngohmknaa.qt
