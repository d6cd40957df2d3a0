/-
  Layer 7: the contracts of quote's Paren and Hex.
-/
import Derived.Test.YtdonjnngohmknaaQTake
import Derived.Deep.RegionHeld3
namespace Go.Proofs.Ytdonjnngohmknaa.qt
set_option linter.unusedVariables false
set_option linter.unusedSimpArgs false
open Go.RowKit bs lf ch

theorem fm_len (f : UInt8 → List UInt8) (m : Nat) (hf : ∀ c, (f c).length ≤ m) (l : List UInt8) : (l.flatMap f).length ≤ m * l.length := by
  induction l with
  | nil => simp
  | cons c l ih =>
    have := hf c
    rw [List.flatMap_cons, List.length_append, List.length_cons, Nat.mul_succ]
    omega
theorem pone_len (c : UInt8) : (pone c).length ≤ 4 := by
  unfold pone
  split
  · simp
  split
  · simp
  split <;> simp
/-- what was written of a form after k bytes -/
def pre (x : UInt8) (f : UInt8 → List UInt8) (s : ByteArray) (k : Nat) : List UInt8 := x :: (s.data.toList.take k).flatMap f
theorem pre_zero (x : UInt8) (f : UInt8 → List UInt8) (s : ByteArray) : pre x f s 0 = [x] := rfl
theorem pre_succ (x : UInt8) (f : UInt8 → List UInt8) (s : ByteArray) (k : Nat) (h : k < s.size) : pre x f s (k + 1) = pre x f s k ++ f s[k] := by
  unfold pre
  rw [List.take_succ_eq_append_getElem (by simpa using h), List.flatMap_append]
  simp
  rfl
theorem pre_all (x : UInt8) (f : UInt8 → List UInt8) (s : ByteArray) : pre x f s s.size = x :: s.data.toList.flatMap f := by
  unfold pre
  rw [List.take_of_length_le (by simp)]
theorem pre_len (x : UInt8) (f : UInt8 → List UInt8) (m : Nat) (hf : ∀ c, (f c).length ≤ m) (s : ByteArray) (k : Nat) : (pre x f s k).length ≤ 1 + m * k := by
  unfold pre
  have h := fm_len f m hf (s.data.toList.take k)
  have h2 : (s.data.toList.take k).length ≤ k := List.length_take_le _ _
  have h3 := Nat.mul_le_mul_left m h2
  rw [List.length_cons]; omega
theorem LB.new4 (w : World) (cs : Array Value) (n : Nat) (l : List UInt8) (h : cs.toList = vals l) (hn : l.length = n) : LB (w.alloc (.cells cs 5)) (some ⟨w.heap.size, 0, none⟩) n n l := LB.new w cs n l h hn
def StrPost (l : List UInt8) (w : World) (e : Ending) (w' : World) : Prop := e = .returned (.string ⟨l.toArray⟩) ∧ Below w.heap.size w w'
theorem StrPost.mk {l b : List UInt8} {w w' : World} (h : b = l) (hb : Below w.heap.size w w') : StrPost l w (.returned (.string ⟨b.toArray⟩)) w' := by subst h; exact ⟨rfl, hb⟩

set_option maxRecDepth 100000 in
set_option maxHeartbeats 3200000 in
theorem paren_str (s : ByteArray) (w : World) (hs : s.size ≤ 4001) :
    Calls Try.prog 12 #[.string s] w (StrPost (parenL s.data.toList) w) := by
  have HPL := Lib.hid (pre_len 40 pone 4 pone_len s)
  go_enter Try.func12, Try.ntmps12
  go_wp2_with fail
  refine (put_any w.heap.size _ [] (some ⟨_, 0, none⟩) 1 1 [40] _ (OwnB.none_ _ _) (LB.new _ _ 1 [40] rfl rfl) (by simp) (by simp)).mono ?_
  rintro e_ w1 ⟨v1, rfl, ho1, hb1⟩
  have HO1 := Lib.hid ho1
  have HB1 := Lib.hid ((balloc (Below.refl w.heap.size w) _).trans hb1)
  clear ho1 hb1
  go_wp2_with fail
  go_loopw [3, 4] (fun ov iv wr => ∃ k : Nat, k ≤ s.size ∧ iv = .int .i64 (k : Int) ∧ Hid (OwnB wr w.heap.size ov (pre 40 pone s k)) ∧ Hid (Below w.heap.size w wr)) (fun _ iv _ => s.size - (intOf iv).toNat)
  case atStart => exact ⟨0, Nat.zero_le _, rfl, HO1, HB1⟩
  case round =>
    obtain ⟨k, hk, rfl, HO, HB⟩ := hrel
    obtain ⟨wo, rfl⟩ : ∃ wo, wo = wr := ⟨_, rfl⟩
    have hsw := HB.out.size
    have hpl := HPL.out k
    by_cases hlt : k < s.size
    · have HPS := Lib.hid (pre_succ 40 pone s k hlt)
      have hc255 : (s[k].toNat : Int) ≤ 255 := by have := s[k].toNat_lt; omega
      have HNM := Lib.hid (fun W => name_any s[k] W)
      have HSB := Lib.hid (hasShort_nat s[k])
      obtain ⟨q, hq⟩ : ∃ q, short s[k] = q := ⟨_, rfl⟩
      obtain ⟨qb, hqb⟩ : ∃ qb, hasShort s[k] = qb := ⟨_, rfl⟩
      rw [hq, hqb] at HNM
      have HQ := Lib.hid hq
      have HQB := Lib.hid hqb
      clear hq hqb
      by_cases h1 : s[k] = 40 ∨ s[k] = 41 ∨ s[k] = 92
      · have HP := Lib.hid (show pone s[k] = [92, s[k]] by rw [pone, if_pos h1])
        rcases h1 with h1 | h1 | h1
        · have hv : (s[k].toNat : Int) = 40 := by rw [h1]; rfl
          rw [h1] at HP
          have hnm := HNM.out
          rw [hv] at hnm
          replace HNM := Lib.hid hnm
          have HH := Lib.hid h1
          clear h1 hnm hc255
          go_wp2_with (go_at_call 28; refine (HNM.out _).mono ?_; rintro e_ w_ ⟨rfl, rfl⟩)
          refine (put_any w.heap.size _ _ (some ⟨_, 0, none⟩) 2 2 [92, 40] _ (HO.out.below (balloc (Below.refl _ _) _)) (LB.new _ _ 2 [92, 40] rfl rfl) (by simp; omega) (by omega)).mono ?_
          rintro e_ w2 ⟨v2, rfl, ho1, hb1⟩
          have HO2 := Lib.hid ho1
          have HB2 := Lib.hid ((HB.out.alloc hsw _).trans hb1)
          clear ho1 hb1
          go_wp2_with fail
          go_roundw
          case rel => exact ⟨k + 1, by omega, by go_num, Lib.hid (by rw [HPS.out, HH.out, HP.out]; exact HO2.out), HB2⟩
          case measure => simp [intOf]; omega
        · have hv : (s[k].toNat : Int) = 41 := by rw [h1]; rfl
          rw [h1] at HP
          have hnm := HNM.out
          rw [hv] at hnm
          replace HNM := Lib.hid hnm
          have HH := Lib.hid h1
          clear h1 hnm hc255
          go_wp2_with (go_at_call 28; refine (HNM.out _).mono ?_; rintro e_ w_ ⟨rfl, rfl⟩)
          refine (put_any w.heap.size _ _ (some ⟨_, 0, none⟩) 2 2 [92, 41] _ (HO.out.below (balloc (Below.refl _ _) _)) (LB.new _ _ 2 [92, 41] rfl rfl) (by simp; omega) (by omega)).mono ?_
          rintro e_ w2 ⟨v2, rfl, ho1, hb1⟩
          have HO2 := Lib.hid ho1
          have HB2 := Lib.hid ((HB.out.alloc hsw _).trans hb1)
          clear ho1 hb1
          go_wp2_with fail
          go_roundw
          case rel => exact ⟨k + 1, by omega, by go_num, Lib.hid (by rw [HPS.out, HH.out, HP.out]; exact HO2.out), HB2⟩
          case measure => simp [intOf]; omega
        · have hv : (s[k].toNat : Int) = 92 := by rw [h1]; rfl
          rw [h1] at HP
          have hnm := HNM.out
          rw [hv] at hnm
          replace HNM := Lib.hid hnm
          have HH := Lib.hid h1
          clear h1 hnm hc255
          go_wp2_with (go_at_call 28; refine (HNM.out _).mono ?_; rintro e_ w_ ⟨rfl, rfl⟩)
          refine (put_any w.heap.size _ _ (some ⟨_, 0, none⟩) 2 2 [92, 92] _ (HO.out.below (balloc (Below.refl _ _) _)) (LB.new _ _ 2 [92, 92] rfl rfl) (by simp; omega) (by omega)).mono ?_
          rintro e_ w2 ⟨v2, rfl, ho1, hb1⟩
          have HO2 := Lib.hid ho1
          have HB2 := Lib.hid ((HB.out.alloc hsw _).trans hb1)
          clear ho1 hb1
          go_wp2_with fail
          go_roundw
          case rel => exact ⟨k + 1, by omega, by go_num, Lib.hid (by rw [HPS.out, HH.out, HP.out]; exact HO2.out), HB2⟩
          case measure => simp [intOf]; omega
      · have v40 : ((s[k].toNat : Int) == 40) = false := by rw [beq_eq_false_iff_ne]; exact fun e => h1 (.inl ((u8e _ 40).2 e))
        have v41 : ((s[k].toNat : Int) == 41) = false := by rw [beq_eq_false_iff_ne]; exact fun e => h1 (.inr (.inl ((u8e _ 41).2 e)))
        have v92 : ((s[k].toNat : Int) == 92) = false := by rw [beq_eq_false_iff_ne]; exact fun e => h1 (.inr (.inr ((u8e _ 92).2 e)))
        have H1 := Lib.hid h1
        clear h1
        by_cases hsh : short s[k] = 0
        · have hqf : qb = false := by rw [← HQB.out]; unfold hasShort; simpa using hsh
          subst hqf
          have HSH := Lib.hid hsh
          clear hsh
          by_cases hr : (s[k].toNat : Int) < 32 ∨ 126 < (s[k].toNat : Int)
          · have HP := Lib.hid (show pone s[k] = [92, UInt8.ofNat (48 + s[k].toNat / 64), UInt8.ofNat (48 + s[k].toNat / 8 % 8), UInt8.ofNat (48 + s[k].toNat % 8)] by
              rw [pone, if_neg H1.out, if_neg (by simpa using HSH.out), if_pos]
              rcases hr with hr | hr
              · left; rw [UInt8.lt_iff_toNat_lt]; have e : (32 : UInt8).toNat = 32 := rfl; omega
              · right; rw [UInt8.lt_iff_toNat_lt]; have e : (126 : UInt8).toNat = 126 := rfl; omega)
            rcases hr with hr | hr
            · have d1 : decide ((s[k].toNat : Int) < 32) = true := by simpa using hr
              go_wp2_with (go_at_call 28; refine (HNM.out _).mono ?_; rintro e_ w_ ⟨rfl, rfl⟩)
              refine (put_any w.heap.size _ _ (some ⟨_, 0, none⟩) 4 4 [92, UInt8.ofNat (48 + s[k].toNat / 64), UInt8.ofNat (48 + s[k].toNat / 8 % 8), UInt8.ofNat (48 + s[k].toNat % 8)] _ (HO.out.below (balloc (Below.refl _ _) _)) (LB.new _ _ 4 [92, UInt8.ofNat (48 + s[k].toNat / 64), UInt8.ofNat (48 + s[k].toNat / 8 % 8), UInt8.ofNat (48 + s[k].toNat % 8)] (by simp [vals]; omega) rfl) (by simp; omega) (by omega)).mono ?_
              rintro e_ w2 ⟨v2, rfl, ho1, hb1⟩
              have HO2 := Lib.hid ho1
              have HB2 := Lib.hid ((HB.out.alloc hsw _).trans hb1)
              clear ho1 hb1
              go_wp2_with fail
              go_roundw
              case rel => exact ⟨k + 1, by omega, by go_num, Lib.hid (by rw [HPS.out, HP.out]; exact HO2.out), HB2⟩
              case measure => simp [intOf]; omega
            · have d1 : decide ((s[k].toNat : Int) < 32) = false := by simp; omega
              have d2 : decide (126 < (s[k].toNat : Int)) = true := by simpa using hr
              go_wp2_with (go_at_call 28; refine (HNM.out _).mono ?_; rintro e_ w_ ⟨rfl, rfl⟩)
              refine (put_any w.heap.size _ _ (some ⟨_, 0, none⟩) 4 4 [92, UInt8.ofNat (48 + s[k].toNat / 64), UInt8.ofNat (48 + s[k].toNat / 8 % 8), UInt8.ofNat (48 + s[k].toNat % 8)] _ (HO.out.below (balloc (Below.refl _ _) _)) (LB.new _ _ 4 [92, UInt8.ofNat (48 + s[k].toNat / 64), UInt8.ofNat (48 + s[k].toNat / 8 % 8), UInt8.ofNat (48 + s[k].toNat % 8)] (by simp [vals]; omega) rfl) (by simp; omega) (by omega)).mono ?_
              rintro e_ w2 ⟨v2, rfl, ho1, hb1⟩
              have HO2 := Lib.hid ho1
              have HB2 := Lib.hid ((HB.out.alloc hsw _).trans hb1)
              clear ho1 hb1
              go_wp2_with fail
              go_roundw
              case rel => exact ⟨k + 1, by omega, by go_num, Lib.hid (by rw [HPS.out, HP.out]; exact HO2.out), HB2⟩
              case measure => simp [intOf]; omega
          · have d1 : decide ((s[k].toNat : Int) < 32) = false := by simp; omega
            have d2 : decide (126 < (s[k].toNat : Int)) = false := by simp; omega
            have HP := Lib.hid (show pone s[k] = [s[k]] by
              rw [pone, if_neg H1.out, if_neg (by simpa using HSH.out), if_neg]
              rintro (h | h)
              · rw [UInt8.lt_iff_toNat_lt] at h; have e : (32 : UInt8).toNat = 32 := rfl; omega
              · rw [UInt8.lt_iff_toNat_lt] at h; have e : (126 : UInt8).toNat = 126 := rfl; omega)
            clear hr
            go_wp2_with (go_at_call 28; refine (HNM.out _).mono ?_; rintro e_ w_ ⟨rfl, rfl⟩)
            refine (put_any w.heap.size _ _ (some ⟨_, 0, none⟩) 1 1 [s[k]] _ (HO.out.below (balloc (Below.refl _ _) _)) (LB.new _ _ 1 [s[k]] rfl rfl) (by simp; omega) (by omega)).mono ?_
            rintro e_ w2 ⟨v2, rfl, ho1, hb1⟩
            have HO2 := Lib.hid ho1
            have HB2 := Lib.hid ((HB.out.alloc hsw _).trans hb1)
            clear ho1 hb1
            go_wp2_with fail
            go_roundw
            case rel => exact ⟨k + 1, by omega, by go_num, Lib.hid (by rw [HPS.out, HP.out]; exact HO2.out), HB2⟩
            case measure => simp [intOf]; omega
        · have hqf : qb = true := by rw [← HQB.out]; unfold hasShort; simpa using hsh
          subst hqf
          have HP := Lib.hid (show pone s[k] = [92, q] by rw [pone, if_neg H1.out, if_pos hsh, HQ.out])
          clear hsh
          go_wp2_with (go_at_call 28; refine (HNM.out _).mono ?_; rintro e_ w_ ⟨rfl, rfl⟩)
          refine (put_any w.heap.size _ _ (some ⟨_, 0, none⟩) 2 2 [92, q] _ (HO.out.below (balloc (Below.refl _ _) _)) (LB.new _ _ 2 [92, q] rfl rfl) (by simp; omega) (by omega)).mono ?_
          rintro e_ w2 ⟨v2, rfl, ho1, hb1⟩
          have HO2 := Lib.hid ho1
          have HB2 := Lib.hid ((HB.out.alloc hsw _).trans hb1)
          clear ho1 hb1
          go_wp2_with fail
          go_roundw
          case rel => exact ⟨k + 1, by omega, by go_num, Lib.hid (by rw [HPS.out, HP.out]; exact HO2.out), HB2⟩
          case measure => simp [intOf]; omega
    · obtain rfl : k = s.size := by omega
      go_wp2_with fail
      refine (put_any w.heap.size _ (pre 40 pone s s.size) (some ⟨_, 0, none⟩) 1 1 [41] _ (HO.out.below (balloc (Below.refl _ _) _)) (LB.new _ _ 1 [41] rfl rfl) (by simp; omega) (by omega)).mono ?_
      rintro e_ w2 ⟨v2, rfl, ho1, hb1⟩
      obtain ⟨A2, c2, rfl, hl2⟩ := ho1.lb
      have hcv := hl2.str
      generalize hn9 : (pre 40 pone s s.size ++ [41]).length = n9 at *
      have HB1 := Lib.hid ((HB.out.alloc hsw _).trans hb1)
      clear ho1 hb1 hl2 hn9
      go_wp2_with fail
      go_ret
      exact StrPost.mk (by rw [pre_all]; rfl) HB1.out

end Go.Proofs.Ytdonjnngohmknaa.qt
