/-
  Layer 7: the contract of quote's Hex.
-/
import Derived.Test.YtdonjnngohmknaaQForms
import Derived.Test.YtdonjnngohmknaaUpAlloc
namespace Go.Proofs.Ytdonjnngohmknaa.qt
set_option linter.unusedVariables false
set_option linter.unusedSimpArgs false
open Go.RowKit bs lf ch

theorem hone_len (c : UInt8) : (hone c).length ≤ 2 := by simp [hone]

theorem hex_index (d : Nat) (h : d < 16) (W : World) : (Instr.index 9 (.string { data := #[48, 49, 50, 51, 52, 53, 54, 55, 56, 57, 97, 98, 99, 100, 101, 102] }) (.int .u8 (d : Int))).run Try.prog W = .ok (.int .u8 ((hexd d).toNat : Int)) W := by
  rcases (show d = 0 ∨ d = 1 ∨ d = 2 ∨ d = 3 ∨ d = 4 ∨ d = 5 ∨ d = 6 ∨ d = 7 ∨ d = 8 ∨ d = 9 ∨ d = 10 ∨ d = 11 ∨ d = 12 ∨ d = 13 ∨ d = 14 ∨ d = 15 by omega) with rfl | rfl | rfl | rfl | rfl | rfl | rfl | rfl | rfl | rfl | rfl | rfl | rfl | rfl | rfl | rfl <;> kernel_rfl

set_option maxRecDepth 100000 in
set_option maxHeartbeats 1600000 in
theorem hex_str (s : ByteArray) (w : World) (hs : s.size ≤ 4001) :
    Calls Try.prog 14 #[.string s] w (StrPost (hexL s.data.toList) w) := by
  have HPL := Lib.hid (pre_len 60 hone 2 hone_len s)
  go_enter Try.func14, Try.ntmps14
  go_wp2_with fail
  refine (put_any w.heap.size _ [] (some ⟨_, 0, none⟩) 1 1 [60] _ (OwnB.none_ _ _) (LB.new _ _ 1 [60] rfl rfl) (by simp) (by simp)).mono ?_
  rintro e_ w1 ⟨v1, rfl, ho1, hb1⟩
  have HO1 := Lib.hid ho1
  have HB1 := Lib.hid ((balloc (Below.refl w.heap.size w) _).trans hb1)
  clear ho1 hb1
  go_wp2_with fail
  go_loopw [3, 4] (fun ov iv wr => ∃ k : Nat, k ≤ s.size ∧ iv = .int .i64 (k : Int) ∧ Hid (OwnB wr w.heap.size ov (pre 60 hone s k)) ∧ Hid (Below w.heap.size w wr)) (fun _ iv _ => s.size - (intOf iv).toNat)
  case atStart => exact ⟨0, Nat.zero_le _, rfl, HO1, HB1⟩
  case round =>
    obtain ⟨k, hk, rfl, HO, HB⟩ := hrel
    obtain ⟨wo, rfl⟩ : ∃ wo, wo = wr := ⟨_, rfl⟩
    have hsw := HB.out.size
    have hpl := HPL.out k
    by_cases hlt : k < s.size
    · have HPS := Lib.hid (pre_succ 60 hone s k hlt)
      have hc255 : (s[k].toNat : Int) ≤ 255 := by have := s[k].toNat_lt; omega
      have hk0 : (0 : Int) ≤ (k : Int) := by omega
      have hk1 : (k : Int) < (s.size : Int) := by omega
      have hix1 : ∀ W, (Instr.index 9 (.string { data := #[48, 49, 50, 51, 52, 53, 54, 55, 56, 57, 97, 98, 99, 100, 101, 102] }) (.int .u8 ((s[k].toNat : Int) / 16))).run Try.prog W = .ok (.int .u8 ((hexd (s[k].toNat / 16)).toNat : Int)) W := fun W => by
        rw [show (s[k].toNat : Int) / 16 = ((s[k].toNat / 16 : Nat) : Int) by omega]
        exact hex_index _ (by omega) W
      have hix2 : ∀ W, (Instr.index 9 (.string { data := #[48, 49, 50, 51, 52, 53, 54, 55, 56, 57, 97, 98, 99, 100, 101, 102] }) (.int .u8 ((s[k].toNat : Int) % 16))).run Try.prog W = .ok (.int .u8 ((hexd (s[k].toNat % 16)).toNat : Int)) W := fun W => by
        rw [show (s[k].toNat : Int) % 16 = ((s[k].toNat % 16 : Nat) : Int) by omega]
        exact hex_index _ (by omega) W
      go_wp2_with fail
      refine wp_region_late 11 [0] (by kernel_rfl) (by kernel_rfl) (fun d _ _ _ _ h => by cases d <;> exact h) ?_
      intro u0
      simp only [List.take_succ_cons, List.take_zero, List.drop_succ_cons, List.drop_zero]
      repeat (go_big_quiet_step (fail))
      refine wpQuiet_nil ?_
      rintro _ ⟨uq, rfl⟩
      replace HO := Lib.hid (HO.out.below uq.ok)
      replace HB := Lib.hid (btrans HB.out uq.ok)
      replace hsw := HB.out.size
      generalize hwx : uq.val = wy at *
      clear hwx uq u0 hix1 hix2
      go_wp2_with fail
      refine (put_any w.heap.size _ _ (some ⟨_, 0, none⟩) 2 2 (hone s[k]) _ (HO.out.below (balloc (Below.refl _ _) _)) (LB.new _ _ 2 (hone s[k]) rfl rfl) (by simp; omega) (by omega)).mono ?_
      rintro e_ w2 ⟨v2, rfl, ho1, hb1⟩
      have HO2 := Lib.hid ho1
      have HB2 := Lib.hid ((HB.out.alloc hsw _).trans hb1)
      clear ho1 hb1
      go_wp2_with fail
      go_roundw
      case rel => exact ⟨k + 1, by omega, by go_num, Lib.hid (by rw [HPS.out]; exact HO2.out), HB2⟩
      case measure => simp [intOf]; omega
    · obtain rfl : k = s.size := by omega
      go_wp2_with fail
      refine (put_any w.heap.size _ (pre 60 hone s s.size) (some ⟨_, 0, none⟩) 1 1 [62] _ (HO.out.below (balloc (Below.refl _ _) _)) (LB.new _ _ 1 [62] rfl rfl) (by simp; omega) (by omega)).mono ?_
      rintro e_ w2 ⟨v2, rfl, ho1, hb1⟩
      obtain ⟨A2, c2, rfl, hl2⟩ := ho1.lb
      have hcv := hl2.str
      generalize hn9 : (pre 60 hone s s.size ++ [62]).length = n9 at *
      have HB1 := Lib.hid ((HB.out.alloc hsw _).trans hb1)
      clear ho1 hb1 hl2 hn9
      go_wp2_with fail
      go_ret
      exact StrPost.mk (by rw [pre_all]; rfl) HB1.out
end Go.Proofs.Ytdonjnngohmknaa.qt
