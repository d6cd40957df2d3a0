/-
  Layer 7, the reference: short, eight, one, Paren, Hex, five, Eighty.
-/
import Derived.Test.YtdonjnngohmknaaQKnown
import Derived.Test.YtdonjnngohmknaaQBack2
import Derived.LoopN
namespace Go.Proofs.Ytdonjnngohmknaa.qt
set_option linter.unusedVariables false
set_option linter.unusedSimpArgs false
open Go.RowKit bs lf ch

set_option maxHeartbeats 1000000 in
theorem rshort_any (c : UInt8) (w : World) :
    Calls Try.prog 43 #[.int .u8 (c.toNat : Int)] w fun e w' => e = .returned (.int .u8 ((short c).toNat : Int)) ∧ w = w' := by
  have hs := short_nat c
  have HS := Lib.hid hs
  clear hs
  obtain ⟨n, hn⟩ : ∃ n : Int, (c.toNat : Int) = n := ⟨_, rfl⟩
  rw [hn] at HS
  rw [hn]
  clear hn
  go_enter Try.func43, Try.ntmps43
  go_wp2
  all_goals go_ret
  all_goals refine ⟨bs.ret_int ?_, rfl⟩
  all_goals rw [HS.out]
  all_goals simp only [beq_iff_eq, beq_eq_false_iff_ne] at *
  all_goals simp_all
theorem reight_yes (c : Int) (w : World) (h : 48 ≤ c) (h2 : c ≤ 55) : Calls Try.prog 44 #[.int .u8 c] w fun e w' => e = .returned (.bool true) ∧ w = w' := by
  go_enter Try.func44, Try.ntmps44
  go_wp2
  go_ret
  exact ⟨rfl, rfl⟩
theorem reight_no (c : Int) (w : World) (h : c < 48 ∨ 55 < c) : Calls Try.prog 44 #[.int .u8 c] w fun e w' => e = .returned (.bool false) ∧ w = w' := by
  rcases h with h | h
  · have d1 : decide (48 ≤ c) = false := by simp; omega
    go_enter Try.func44, Try.ntmps44
    go_wp2
    go_ret
    exact ⟨rfl, rfl⟩
  · by_cases h2 : 48 ≤ c
    · have d1 : decide (48 ≤ c) = true := by simpa using h2
      have d2 : decide (c ≤ 55) = false := by simp; omega
      go_enter Try.func44, Try.ntmps44
      go_wp2
      go_ret
      exact ⟨rfl, rfl⟩
    · omega

theorem szl (S : ByteArray) : S.data.toList.length = S.size := by simp
theorem str_eq (b : ByteArray) : (⟨b.data.toList.toArray⟩ : ByteArray) = b := by cases b; simp
/-- a string in a new row -/
theorem new_str (cs : Array Value) (n : Nat) (l : List UInt8) (h : cs.toList = vals l) (hn : l.length = n) (W : World) : (convert 31 9 (.slice (some ⟨W.heap.size, 0, none⟩) n n)).run Try.prog (W.alloc (.cells cs 5)) = .ok (.string ⟨l.toArray⟩) (W.alloc (.cells cs 5)) :=
  (LB.new W cs n l h hn).str

set_option maxRecDepth 100000 in
set_option maxHeartbeats 3200000 in
theorem rone_any (c : UInt8) (w : World) : Calls Try.prog 29 #[.int .u8 (c.toNat : Int)] w (StrPost (pone c) w) := by
  have hc255 : (c.toNat : Int) ≤ 255 := by have := c.toNat_lt; omega
  have HSH0 := Lib.hid (fun W => rshort_any c W)
  obtain ⟨q, hq⟩ : ∃ q, short c = q := ⟨_, rfl⟩
  rw [hq] at HSH0
  have HQ := Lib.hid hq
  clear hq
  by_cases h1 : c = 40 ∨ c = 41 ∨ c = 92
  · have HP := Lib.hid (show pone c = [92, c] by rw [pone, if_pos h1])
    rcases h1 with h1 | h1 | h1
    · have hv : (c.toNat : Int) = 40 := by rw [h1]; rfl
      rw [h1] at HP
      have HH := Lib.hid h1
      have hcv := fun W => new_str #[.int .u8 92, .int .u8 40] 2 [92, 40] rfl rfl W
      clear h1 hc255
      go_enter Try.func29, Try.ntmps29
      go_wp2_with fail
      go_ret
      rw [HH.out, HP.out]
      exact ⟨rfl, balloc (Below.refl _ _) _⟩
    · have hv : (c.toNat : Int) = 41 := by rw [h1]; rfl
      rw [h1] at HP
      have HH := Lib.hid h1
      have hcv := fun W => new_str #[.int .u8 92, .int .u8 41] 2 [92, 41] rfl rfl W
      clear h1 hc255
      go_enter Try.func29, Try.ntmps29
      go_wp2_with fail
      go_ret
      rw [HH.out, HP.out]
      exact ⟨rfl, balloc (Below.refl _ _) _⟩
    · have hv : (c.toNat : Int) = 92 := by rw [h1]; rfl
      rw [h1] at HP
      have HH := Lib.hid h1
      have hcv := fun W => new_str #[.int .u8 92, .int .u8 92] 2 [92, 92] rfl rfl W
      clear h1 hc255
      go_enter Try.func29, Try.ntmps29
      go_wp2_with fail
      go_ret
      rw [HH.out, HP.out]
      exact ⟨rfl, balloc (Below.refl _ _) _⟩
  · have v40 : ((c.toNat : Int) == 40) = false := by rw [beq_eq_false_iff_ne]; exact fun e => h1 (.inl ((u8e c 40).2 e))
    have v41 : ((c.toNat : Int) == 41) = false := by rw [beq_eq_false_iff_ne]; exact fun e => h1 (.inr (.inl ((u8e c 41).2 e)))
    have v92 : ((c.toNat : Int) == 92) = false := by rw [beq_eq_false_iff_ne]; exact fun e => h1 (.inr (.inr ((u8e c 92).2 e)))
    have H1 := Lib.hid h1
    clear h1
    by_cases hsh : short c = 0
    · have hqz : q = 0 := by rw [← HQ.out]; exact hsh
      subst hqz
      have hz : ((0 : UInt8).toNat : Int) = 0 := rfl
      have HSH := Lib.hid hsh
      clear hsh
      by_cases hr : (c.toNat : Int) < 32 ∨ 126 < (c.toNat : Int)
      · have HP := Lib.hid (show pone c = [92, UInt8.ofNat (48 + c.toNat / 64), UInt8.ofNat (48 + c.toNat / 8 % 8), UInt8.ofNat (48 + c.toNat % 8)] by
          rw [pone, if_neg H1.out, if_neg (by simpa using HSH.out), if_pos]
          rcases hr with hr | hr
          · left; rw [UInt8.lt_iff_toNat_lt]; have e : (32 : UInt8).toNat = 32 := rfl; omega
          · right; rw [UInt8.lt_iff_toNat_lt]; have e : (126 : UInt8).toNat = 126 := rfl; omega)
        obtain ⟨p1, hp1⟩ : ∃ p, UInt8.ofNat (48 + c.toNat / 64) = p := ⟨_, rfl⟩
        obtain ⟨p2, hp2⟩ : ∃ p, UInt8.ofNat (48 + c.toNat / 8 % 8) = p := ⟨_, rfl⟩
        obtain ⟨p3, hp3⟩ : ∃ p, UInt8.ofNat (48 + c.toNat % 8) = p := ⟨_, rfl⟩
        have hcv := fun W => new_str #[.int .u8 92, .int .u8 (48 + (c.toNat : Int) / 64), .int .u8 (48 + (c.toNat : Int) / 8 % 8), .int .u8 (48 + (c.toNat : Int) % 8)] 4 [92, p1, p2, p3] (by rw [← hp1, ← hp2, ← hp3]; simp [vals]; omega) rfl W
        rw [hp1, hp2, hp3] at HP
        clear hp1 hp2 hp3
        rcases hr with hr | hr
        · have d1 : decide ((c.toNat : Int) < 32) = true := by simpa using hr
          go_enter Try.func29, Try.ntmps29
          go_wp2_with (go_at_call 43; refine (HSH0.out _).mono ?_; rintro e_ w_ ⟨rfl, rfl⟩)
          go_ret
          rw [HP.out]
          exact ⟨rfl, balloc (Below.refl _ _) _⟩
        · have d1 : decide ((c.toNat : Int) < 32) = false := by simp; omega
          have d2 : decide (126 < (c.toNat : Int)) = true := by simpa using hr
          go_enter Try.func29, Try.ntmps29
          go_wp2_with (go_at_call 43; refine (HSH0.out _).mono ?_; rintro e_ w_ ⟨rfl, rfl⟩)
          go_ret
          rw [HP.out]
          exact ⟨rfl, balloc (Below.refl _ _) _⟩
      · have d1 : decide ((c.toNat : Int) < 32) = false := by simp; omega
        have d2 : decide (126 < (c.toNat : Int)) = false := by simp; omega
        have HP := Lib.hid (show pone c = [c] by
          rw [pone, if_neg H1.out, if_neg (by simpa using HSH.out), if_neg]
          rintro (h | h)
          · rw [UInt8.lt_iff_toNat_lt] at h; have e : (32 : UInt8).toNat = 32 := rfl; omega
          · rw [UInt8.lt_iff_toNat_lt] at h; have e : (126 : UInt8).toNat = 126 := rfl; omega)
        have hcv := fun W => new_str #[.int .u8 (c.toNat : Int)] 1 [c] rfl rfl W
        clear hr
        go_enter Try.func29, Try.ntmps29
        go_wp2_with (go_at_call 43; refine (HSH0.out _).mono ?_; rintro e_ w_ ⟨rfl, rfl⟩)
        go_ret
        rw [HP.out]
        exact ⟨rfl, balloc (Below.refl _ _) _⟩
    · have hqz : ((q.toNat : Int) != 0) = true := by
        rw [bne_iff_ne]
        intro e
        apply hsh
        rw [HQ.out]
        exact (u8e q 0).2 e
      have HP := Lib.hid (show pone c = [92, q] by rw [pone, if_neg H1.out, if_pos hsh, HQ.out])
      have hcv := fun W => new_str #[.int .u8 92, .int .u8 (q.toNat : Int)] 2 [92, q] rfl rfl W
      clear hsh
      go_enter Try.func29, Try.ntmps29
      go_wp2_with (go_at_call 43; refine (HSH0.out _).mono ?_; rintro e_ w_ ⟨rfl, rfl⟩)
      go_ret
      rw [HP.out]
      exact ⟨rfl, balloc (Below.refl _ _) _⟩

set_option maxRecDepth 100000 in
set_option maxHeartbeats 3200000 in
theorem rparen_str (s : ByteArray) (w : World) (hs : s.size ≤ 4001) : Calls Try.prog 13 #[.string s] w (StrPost (parenL s.data.toList) w) := by
  go_enter Try.func13, Try.ntmps13
  go_wp2_with fail
  go_loopw [3, 4] (fun ov iv wr => ∃ k : Nat, ∃ S : ByteArray, k ≤ s.size ∧ iv = .int .i64 (k : Int) ∧ ov = .string S ∧ Hid (S.data.toList = pre 40 pone s k) ∧ Hid (Below w.heap.size w wr)) (fun _ iv _ => s.size - (intOf iv).toNat)
  case atStart => exact ⟨0, { data := #[40] }, Nat.zero_le _, rfl, rfl, Lib.hid rfl, Lib.hid (Below.refl _ _)⟩
  case round =>
    obtain ⟨k, S, hk, rfl, rfl, HS, HB⟩ := hrel
    obtain ⟨wo, rfl⟩ : ∃ wo, wo = wr := ⟨_, rfl⟩
    have hSz : S.size ≤ 1 + 4 * k := by rw [← szl S, HS.out]; exact pre_len 40 pone 4 pone_len s k
    by_cases hlt : k < s.size
    · have HPS := Lib.hid (pre_succ 40 pone s k hlt)
      have HN := Lib.hid (fun W => rone_any s[k] W)
      go_wp2_with fail
      refine (HN.out _).mono ?_
      rintro e_ w2 ⟨rfl, hb1⟩
      obtain ⟨B, hB⟩ : ∃ B : ByteArray, (⟨(pone s[k]).toArray⟩ : ByteArray) = B := ⟨_, rfl⟩
      have HBB := Lib.hid (show B.data.toList = pone s[k] by rw [← hB])
      have hBz : B.size ≤ 4 := by rw [← szl B, HBB.out]; exact pone_len _
      rw [hB]
      have HB2 := Lib.hid (btrans HB.out hb1)
      clear hb1 hB
      go_wp2_with fail
      go_roundw
      case rel => exact ⟨k + 1, S ++ B, by omega, by go_num, rfl, Lib.hid (by rw [show (S ++ B).data.toList = S.data.toList ++ B.data.toList by simp, HS.out, HBB.out, HPS.out]), HB2⟩
      case measure => simp [intOf]; omega
    · obtain rfl : k = s.size := by omega
      go_wp2_with fail
      go_ret
      have e : (S ++ { data := #[41] } : ByteArray) = ⟨(parenL s.data.toList).toArray⟩ := by
        have e2 : (S ++ { data := #[41] } : ByteArray).data.toList = parenL s.data.toList := by
          rw [show (S ++ { data := #[41] } : ByteArray).data.toList = S.data.toList ++ [41] by simp, HS.out, pre_all]; rfl
        rw [← e2, str_eq]
      rw [e]
      exact ⟨rfl, HB.out⟩

theorem app_list (a b : ByteArray) : (a ++ b).data.toList = a.data.toList ++ b.data.toList := by simp
theorem hexk (d : Nat) (h : d < 16) : (({ data := #[48, 49, 50, 51, 52, 53, 54, 55, 56, 57, 97, 98, 99, 100, 101, 102] } : ByteArray).extract d (d + 1)).data.toList = [hexd d] := by
  rcases (show d = 0 ∨ d = 1 ∨ d = 2 ∨ d = 3 ∨ d = 4 ∨ d = 5 ∨ d = 6 ∨ d = 7 ∨ d = 8 ∨ d = 9 ∨ d = 10 ∨ d = 11 ∨ d = 12 ∨ d = 13 ∨ d = 14 ∨ d = 15 by omega) with rfl | rfl | rfl | rfl | rfl | rfl | rfl | rfl | rfl | rfl | rfl | rfl | rfl | rfl | rfl | rfl <;> decide

set_option maxRecDepth 100000 in
set_option maxHeartbeats 3200000 in
theorem rhex_str (s : ByteArray) (w : World) (hs : s.size ≤ 4001) : Calls Try.prog 15 #[.string s] w (StrPost (hexL s.data.toList) w) := by
  go_enter Try.func15, Try.ntmps15
  go_wp2_with fail
  go_loopw [3, 4] (fun ov iv wr => ∃ k : Nat, ∃ S : ByteArray, k ≤ s.size ∧ iv = .int .i64 (k : Int) ∧ ov = .string S ∧ Hid (S.data.toList = pre 60 hone s k) ∧ Hid (Below w.heap.size w wr)) (fun _ iv _ => s.size - (intOf iv).toNat)
  case atStart => exact ⟨0, { data := #[60] }, Nat.zero_le _, rfl, rfl, Lib.hid rfl, Lib.hid (Below.refl _ _)⟩
  case round =>
    obtain ⟨k, S, hk, rfl, rfl, HS, HB⟩ := hrel
    obtain ⟨wo, rfl⟩ : ∃ wo, wo = wr := ⟨_, rfl⟩
    have hSz : S.size ≤ 1 + 2 * k := by rw [← szl S, HS.out]; exact pre_len 60 hone 2 hone_len s k
    by_cases hlt : k < s.size
    · have HPS := Lib.hid (pre_succ 60 hone s k hlt)
      have hc255 : (s[k].toNat : Int) ≤ 255 := by have := s[k].toNat_lt; omega
      have hk0 : (0 : Int) ≤ (k : Int) := by omega
      have hk1 : (k : Int) < (s.size : Int) := by omega
      obtain ⟨h, hh⟩ : ∃ h : Nat, (s[k].toNat : Int) / 16 = (h : Int) := ⟨s[k].toNat / 16, by omega⟩
      obtain ⟨l, hl⟩ : ∃ l : Nat, (s[k].toNat : Int) % 16 = (l : Int) := ⟨s[k].toNat % 16, by omega⟩
      have h0 : (0 : Int) ≤ (h : Int) := by omega
      have h1 : (h : Int) ≤ 15 := by omega
      have l0 : (0 : Int) ≤ (l : Int) := by omega
      have l1 : (l : Int) ≤ 15 := by omega
      have HHL := Lib.hid (show hone s[k] = [hexd h] ++ [hexd l] by unfold hone; rw [show s[k].toNat / 16 = h by omega, show s[k].toNat % 16 = l by omega]; rfl)
      have HK1 := Lib.hid (hexk h (by omega))
      have HK2 := Lib.hid (hexk l (by omega))
      have e1 : ((h : Int) + 1).toNat = h + 1 := by omega
      have e2 : ((l : Int) + 1).toNat = l + 1 := by omega
      go_wp2_with fail
      go_quiet (fail)
      go_wp2_with fail
      go_quiet (fail)
      go_wp2_with fail
      go_roundw
      case rel => exact ⟨k + 1, S ++ ({ data := #[48, 49, 50, 51, 52, 53, 54, 55, 56, 57, 97, 98, 99, 100, 101, 102] } : ByteArray).extract h (h + 1) ++ ({ data := #[48, 49, 50, 51, 52, 53, 54, 55, 56, 57, 97, 98, 99, 100, 101, 102] } : ByteArray).extract l (l + 1), by omega, by go_num, rfl, Lib.hid (by rw [app_list, app_list, HK1.out, HK2.out, HS.out, HPS.out, HHL.out, List.append_assoc]), Lib.hid (below_drewN HB.out _)⟩
      case measure => simp [intOf]; omega
    · obtain rfl : k = s.size := by omega
      go_wp2_with fail
      go_ret
      have e : (S ++ { data := #[62] } : ByteArray) = ⟨(hexL s.data.toList).toArray⟩ := by
        have e2 : (S ++ { data := #[62] } : ByteArray).data.toList = hexL s.data.toList := by
          rw [show (S ++ { data := #[62] } : ByteArray).data.toList = S.data.toList ++ [62] by simp, HS.out, pre_all]; rfl
        rw [← e2, str_eq]
      rw [e]
      exact ⟨rfl, HB.out⟩

def strSz : Value → Nat
  | .string s => s.size
  | _ => 0
theorem four0_get (s : ByteArray) (k : Nat) (hk : k < 4) (h : k < s.size) : (s.data.toList.take 4).getD k 0 = s[k] := by
  rw [List.getD_eq_getElem?_getD, List.getElem?_take, if_pos hk, List.getElem?_eq_getElem (by simpa using h)]
  rfl
theorem four0_none (s : ByteArray) (k : Nat) (h : s.size ≤ k) : (s.data.toList.take 4).getD k 0 = 0 := by
  rw [List.getD_eq_getElem?_getD, List.getElem?_eq_none (by simp; omega)]
  rfl
theorem drop_list (B : ByteArray) (m : Nat) : (B.extract m B.size).data.toList = B.data.toList.drop m := by
  rw [ByteArray.data_extract, Array.toList_extract]
  have := szl B
  simp
  rw [List.take_of_length_le (by first | (simp; done) | (simp; omega))]
set_option maxRecDepth 100000 in
set_option maxHeartbeats 3200000 in
theorem rfive_any (x : Nat) (w : World) (hx : (x : Int) ≤ 4294967295) : Calls Try.prog 30 #[.int .i64 (x : Int)] w fun e w' => e = .returned (.agg #[.int .u8 (33 + (x : Int) / 85 / 85 / 85 / 85 % 85), .int .u8 (33 + (x : Int) / 85 / 85 / 85 % 85), .int .u8 (33 + (x : Int) / 85 / 85 % 85), .int .u8 (33 + (x : Int) / 85 % 85), .int .u8 (33 + (x : Int) % 85)]) ∧ Below w.heap.size w w' := by
  go_enter Try.func30, Try.ntmps30
  go_wp2_with fail
  refine wp_loop_rounds 6 ?_
  rw [rounds_succ]
  go_wp2_with fail
  rw [rounds_succ]
  go_wp2_with fail
  rw [rounds_succ]
  go_wp2_with fail
  rw [rounds_succ]
  go_wp2_with fail
  rw [rounds_succ]
  go_wp2_with fail
  rw [rounds_succ]
  go_wp2_with fail
  refine ret_struct1 (g := w.heap.size) (t := 52) (cs := #[.int .u8 (33 + (x : Int) / 85 / 85 / 85 / 85 % 85), .int .u8 (33 + (x : Int) / 85 / 85 / 85 % 85), .int .u8 (33 + (x : Int) / 85 / 85 % 85), .int .u8 (33 + (x : Int) / 85 % 85), .int .u8 (33 + (x : Int) % 85)]) rfl rfl ?_ Try.underlying52 rfl rfl rfl ?_
  · exact (Blk.new w _ _).alloc _
  · exact ⟨rfl, by (repeat' (first | exact Below.refl _ _ | exact Below.refl _ _ | refine balloc ?_ _ | refine Below.drew ?_ | refine below_drewN ?_ _ | refine bset ?_ (by first | omega | (simp <;> omega)) _))⟩

set_option maxRecDepth 100000 in
set_option maxHeartbeats 3200000 in
theorem reighty_str (s : ByteArray) (w : World) (hs : s.size ≤ 4001) : Calls Try.prog 17 #[.string s] w (StrPost (eightyL s.data.toList) w) := by
  have hlen : s.data.toList.length = s.size := by simp
  obtain ⟨G, hG⟩ : ∃ G, groups s.size s.data.toList = G := ⟨_, rfl⟩
  have hX : eightyL s.data.toList = 60 :: 126 :: (G ++ [126, 62]) := by rw [eightyL, hlen, hG]
  rw [hX]
  have HG := Lib.hid hG
  clear hlen hG hX
  go_enter Try.func17, Try.ntmps17
  go_wp2_with fail
  go_loopw [0, 3] (fun bv sv wr => ∃ B S : ByteArray, ∃ f r : Nat, ∃ d : List UInt8, bv = .string B ∧ sv = .string S ∧ B.size + 4 * r ≤ 4004 ∧ B.size ≤ f ∧ d.length ≤ 5 * r ∧ Hid (S.data.toList = 60 :: 126 :: d) ∧ Hid (Below w.heap.size w wr) ∧ Hid (G = d ++ groups f B.data.toList)) (fun bv _ _ => strSz bv)
  case atStart => exact ⟨s, { data := #[60, 126] }, s.size, 0, [], rfl, rfl, by omega, by omega, by simp, Lib.hid rfl, Lib.hid (Below.refl _ _), Lib.hid HG.out.symm⟩
  case round =>
    obtain ⟨B, S, f, r, d, rfl, rfl, hB1, hf, hdl, HS, HB, HGG⟩ := hrel
    obtain ⟨wo, rfl⟩ : ∃ wo, wo = wr := ⟨_, rfl⟩
    have hSz : S.size ≤ 5007 := by
      have h := szl S
      rw [HS.out] at h
      simp only [List.length_cons] at h
      omega
    by_cases hlt : 0 < B.size
    · obtain ⟨f, rfl⟩ : ∃ g, f = g + 1 := ⟨f - 1, by omega⟩
      have hgg := HGG.out
      rw [groups_step f _ (by intro e; have := szl B; rw [e] at this; simp at this; omega)] at hgg
      replace HGG := Lib.hid hgg
      obtain ⟨l4, hl4⟩ : ∃ l4, B.data.toList.take 4 = l4 := ⟨_, rfl⟩
      rw [hl4] at HGG
      have hget := four0_get B
      have hnon := four0_none B
      have hfl : l4.length = min 4 B.size := by rw [← hl4, List.length_take, szl]
      rw [hl4] at hget hnon
      have HGET := Lib.hid hget
      have HNON := Lib.hid hnon
      have HFL := Lib.hid hfl
      have HPB := Lib.hid (pv_small l4)
      have HPF := Lib.hid (pv_four l4)
      have HPV := Lib.hid (pv_val l4)
      have HEL := Lib.hid (eone_len l4)
      clear hl4 hget hnon hfl hgg
      rcases (show 5 ≤ B.size ∨ B.size = 4 ∨ B.size = 3 ∨ B.size = 2 ∨ B.size = 1 by omega) with hm | hm | hm | hm | hm
      · have hmm : (5 : Int) ≤ (B.size : Int) := by omega
        have HLL := Lib.hid (show l4.length = 4 by rw [HFL.out]; omega)
        go_wp2_with fail
        go_loop [4, 6] (fun vv kv => ∃ k x : Nat, k ≤ 4 ∧ kv = .int .i64 (k : Int) ∧ vv = .int .i64 (x : Int) ∧ Hid (x = pv l4 k)) (fun _ kv => 4 - (intOf kv).toNat)
        case atStart => exact ⟨0, 0, by omega, rfl, rfl, Lib.hid rfl⟩
        case round =>
          obtain ⟨k, x, hk, rfl, rfl, hx⟩ := hrel
          by_cases hk4 : k < 4
          · have hxs : (x : Int) ≤ 16777215 := by have := HPB.out k (by omega); rw [← hx.out] at this; omega
            have dk : decide ((k : Int) < 4) = true := by simp; omega
            by_cases hkm : k < 4
            · have dm : decide ((k : Int) < 4) = true := by simp; omega
              have hkB : k < B.size := by omega
              have hcb : (B[k].toNat : Int) ≤ 255 := by have := B[k].toNat_lt; omega
              go_wp2_with fail
              go_round
              case rel => exact ⟨k + 1, 256 * x + B[k].toNat, by omega, by go_num, by go_num, Lib.hid (by rw [pv, ← hx.out, HGET.out k hk4 hkB])⟩
              case measure => simp [intOf]; omega
            · exact absurd hk4 hkm
          · obtain rfl : k = 4 := by omega
            have hxf : (x : Int) ≤ 4294967295 := by have := HPF.out; rw [← hx.out] at this; omega
            have HXV := Lib.hid (hx.out.trans HPV.out)
            obtain ⟨E, hE⟩ : ∃ E : ByteArray, (⟨((five x).take 5).toArray⟩ : ByteArray) = E := ⟨_, rfl⟩
            have hcv := fun W : World => (LB.arr W 52 _ 5 5 (five x) (five_cells x) rfl (by omega)).str
            rw [hE] at hcv
            have HEE := Lib.hid (show E.data.toList = (five x).take 5 by rw [← hE])
            have hEz : E.size ≤ 5 := by rw [← szl E, HEE.out, List.length_take]; first | (simp [five]; done) | (simp [five]; omega)
            clear hE
            go_wp2_with fail
            refine (rfive_any x _ hxf).mono ?_
            rintro e_ w2 ⟨rfl, hb1⟩
            have HB2 := Lib.hid (balloc (btrans HB.out hb1) (.cells #[.int .u8 (33 + (x : Int) / 85 / 85 / 85 / 85 % 85), .int .u8 (33 + (x : Int) / 85 / 85 / 85 % 85), .int .u8 (33 + (x : Int) / 85 / 85 % 85), .int .u8 (33 + (x : Int) / 85 % 85), .int .u8 (33 + (x : Int) % 85)] 52))
            clear hb1
            by_cases hv0 : x = 0
            · have dz : ((x : Int) == 0) = true := by simp; omega
              have HX0 := Lib.hid hv0
              clear hv0 hcv
              go_wp2_with fail
              go_roundw
              case rel => exact ⟨B.extract 4 B.size, S ++ { data := #[122] }, f, r + 1, d ++ eone l4, rfl, rfl, by rw [ByteArray.size_extract]; omega, by rw [ByteArray.size_extract]; omega, by have := HEL.out; rw [List.length_append]; omega, Lib.hid (by rw [app_list, HS.out, eone_z HXV.out HLL.out HX0.out]; rfl), HB2, Lib.hid (by rw [HGG.out, drop_list, List.append_assoc])⟩
              case measure =>
                show (B.extract 4 B.size).size < B.size
                rw [ByteArray.size_extract]
                omega
            · have dz : ((x : Int) == 0) = false := by simpa using hv0
              have HX0 := Lib.hid hv0
              clear hv0
              go_wp2_with fail
              go_roundw
              case rel => exact ⟨B.extract 4 B.size, S ++ E, f, r + 1, d ++ eone l4, rfl, rfl, by rw [ByteArray.size_extract]; omega, by rw [ByteArray.size_extract]; omega, by have := HEL.out; rw [List.length_append]; omega, Lib.hid (by rw [app_list, HS.out, HEE.out, eone_five HXV.out HLL.out (fun h => HX0.out h.1)]; rfl), HB2, Lib.hid (by rw [HGG.out, drop_list, List.append_assoc])⟩
              case measure =>
                show (B.extract 4 B.size).size < B.size
                rw [ByteArray.size_extract]
                omega
      · have hmm : (B.size : Int) = 4 := by omega
        have HM := Lib.hid hm
        have HLL := Lib.hid (show l4.length = 4 by rw [HFL.out]; omega)
        clear hm
        go_wp2_with fail
        go_loop [4, 6] (fun vv kv => ∃ k x : Nat, k ≤ 4 ∧ kv = .int .i64 (k : Int) ∧ vv = .int .i64 (x : Int) ∧ Hid (x = pv l4 k)) (fun _ kv => 4 - (intOf kv).toNat)
        case atStart => exact ⟨0, 0, by omega, rfl, rfl, Lib.hid rfl⟩
        case round =>
          obtain ⟨k, x, hk, rfl, rfl, hx⟩ := hrel
          by_cases hk4 : k < 4
          · have hxs : (x : Int) ≤ 16777215 := by have := HPB.out k (by omega); rw [← hx.out] at this; omega
            have dk : decide ((k : Int) < 4) = true := by simp; omega
            by_cases hkm : k < 4
            · have dm : decide ((k : Int) < 4) = true := by simp; omega
              have hkB : k < B.size := by have := HM.out; omega
              have hcb : (B[k].toNat : Int) ≤ 255 := by have := B[k].toNat_lt; omega
              go_wp2_with fail
              go_round
              case rel => exact ⟨k + 1, 256 * x + B[k].toNat, by omega, by go_num, by go_num, Lib.hid (by rw [pv, ← hx.out, HGET.out k hk4 hkB])⟩
              case measure => simp [intOf]; omega
            · exact absurd hk4 hkm
          · obtain rfl : k = 4 := by omega
            have hxf : (x : Int) ≤ 4294967295 := by have := HPF.out; rw [← hx.out] at this; omega
            have HXV := Lib.hid (hx.out.trans HPV.out)
            obtain ⟨E, hE⟩ : ∃ E : ByteArray, (⟨((five x).take 5).toArray⟩ : ByteArray) = E := ⟨_, rfl⟩
            have hcv := fun W : World => (LB.arr W 52 _ 5 5 (five x) (five_cells x) rfl (by omega)).str
            rw [hE] at hcv
            have HEE := Lib.hid (show E.data.toList = (five x).take 5 by rw [← hE])
            have hEz : E.size ≤ 5 := by rw [← szl E, HEE.out, List.length_take]; first | (simp [five]; done) | (simp [five]; omega)
            clear hE
            go_wp2_with fail
            refine (rfive_any x _ hxf).mono ?_
            rintro e_ w2 ⟨rfl, hb1⟩
            have HB2 := Lib.hid (balloc (btrans HB.out hb1) (.cells #[.int .u8 (33 + (x : Int) / 85 / 85 / 85 / 85 % 85), .int .u8 (33 + (x : Int) / 85 / 85 / 85 % 85), .int .u8 (33 + (x : Int) / 85 / 85 % 85), .int .u8 (33 + (x : Int) / 85 % 85), .int .u8 (33 + (x : Int) % 85)] 52))
            clear hb1
            by_cases hv0 : x = 0
            · have dz : ((x : Int) == 0) = true := by simp; omega
              have HX0 := Lib.hid hv0
              clear hv0 hcv
              go_wp2_with fail
              go_roundw
              case rel => exact ⟨B.extract 4 B.size, S ++ { data := #[122] }, f, r + 1, d ++ eone l4, rfl, rfl, by rw [ByteArray.size_extract]; have := HM.out; omega, by rw [ByteArray.size_extract]; have := HM.out; omega, by have := HEL.out; rw [List.length_append]; omega, Lib.hid (by rw [app_list, HS.out, eone_z HXV.out HLL.out HX0.out]; rfl), HB2, Lib.hid (by rw [HGG.out, drop_list, List.append_assoc])⟩
              case measure =>
                show (B.extract 4 B.size).size < B.size
                rw [ByteArray.size_extract]
                have := HM.out; omega
            · have dz : ((x : Int) == 0) = false := by simpa using hv0
              have HX0 := Lib.hid hv0
              clear hv0
              go_wp2_with fail
              go_roundw
              case rel => exact ⟨B.extract 4 B.size, S ++ E, f, r + 1, d ++ eone l4, rfl, rfl, by rw [ByteArray.size_extract]; have := HM.out; omega, by rw [ByteArray.size_extract]; have := HM.out; omega, by have := HEL.out; rw [List.length_append]; omega, Lib.hid (by rw [app_list, HS.out, HEE.out, eone_five HXV.out HLL.out (fun h => HX0.out h.1)]; rfl), HB2, Lib.hid (by rw [HGG.out, drop_list, List.append_assoc])⟩
              case measure =>
                show (B.extract 4 B.size).size < B.size
                rw [ByteArray.size_extract]
                have := HM.out; omega
      · have hmm : (B.size : Int) = 3 := by omega
        have HM := Lib.hid hm
        have HLL := Lib.hid (show l4.length = 3 by rw [HFL.out]; omega)
        clear hm
        go_wp2_with fail
        go_loop [4, 6] (fun vv kv => ∃ k x : Nat, k ≤ 4 ∧ kv = .int .i64 (k : Int) ∧ vv = .int .i64 (x : Int) ∧ Hid (x = pv l4 k)) (fun _ kv => 4 - (intOf kv).toNat)
        case atStart => exact ⟨0, 0, by omega, rfl, rfl, Lib.hid rfl⟩
        case round =>
          obtain ⟨k, x, hk, rfl, rfl, hx⟩ := hrel
          by_cases hk4 : k < 4
          · have hxs : (x : Int) ≤ 16777215 := by have := HPB.out k (by omega); rw [← hx.out] at this; omega
            have dk : decide ((k : Int) < 4) = true := by simp; omega
            by_cases hkm : k < 3
            · have dm : decide ((k : Int) < 3) = true := by simp; omega
              have hkB : k < B.size := by have := HM.out; omega
              have hcb : (B[k].toNat : Int) ≤ 255 := by have := B[k].toNat_lt; omega
              go_wp2_with fail
              go_round
              case rel => exact ⟨k + 1, 256 * x + B[k].toNat, by omega, by go_num, by go_num, Lib.hid (by rw [pv, ← hx.out, HGET.out k hk4 hkB])⟩
              case measure => simp [intOf]; omega
            · have dm : decide ((k : Int) < 3) = false := by simp; omega
              go_wp2_with fail
              go_round
              case rel => exact ⟨k + 1, 256 * x, by omega, by go_num, by go_num, Lib.hid (by rw [pv, ← hx.out, HNON.out k (by have := HM.out; omega)]; rfl)⟩
              case measure => simp [intOf]; omega
          · obtain rfl : k = 4 := by omega
            have hxf : (x : Int) ≤ 4294967295 := by have := HPF.out; rw [← hx.out] at this; omega
            have HXV := Lib.hid (hx.out.trans HPV.out)
            obtain ⟨E, hE⟩ : ∃ E : ByteArray, (⟨((five x).take 4).toArray⟩ : ByteArray) = E := ⟨_, rfl⟩
            have hcv := fun W : World => (LB.arr W 52 _ 4 5 (five x) (five_cells x) rfl (by omega)).str
            rw [hE] at hcv
            have HEE := Lib.hid (show E.data.toList = (five x).take 4 by rw [← hE])
            have hEz : E.size ≤ 5 := by rw [← szl E, HEE.out, List.length_take]; first | (simp [five]; done) | (simp [five]; omega)
            clear hE
            go_wp2_with fail
            refine (rfive_any x _ hxf).mono ?_
            rintro e_ w2 ⟨rfl, hb1⟩
            have HB2 := Lib.hid (balloc (btrans HB.out hb1) (.cells #[.int .u8 (33 + (x : Int) / 85 / 85 / 85 / 85 % 85), .int .u8 (33 + (x : Int) / 85 / 85 / 85 % 85), .int .u8 (33 + (x : Int) / 85 / 85 % 85), .int .u8 (33 + (x : Int) / 85 % 85), .int .u8 (33 + (x : Int) % 85)] 52))
            clear hb1
            go_wp2_with fail
            go_roundw
            case rel => exact ⟨B.extract 3 B.size, S ++ E, f, r + 1, d ++ eone l4, rfl, rfl, by rw [ByteArray.size_extract]; have := HM.out; omega, by rw [ByteArray.size_extract]; have := HM.out; omega, by have := HEL.out; rw [List.length_append]; omega, Lib.hid (by rw [app_list, HS.out, HEE.out, eone_five HXV.out HLL.out (fun h => absurd h.2 (by decide))]; rfl), HB2, Lib.hid (by rw [HGG.out, drop_list, List.append_assoc, List.drop_eq_nil_of_le (show B.data.toList.length ≤ 4 by rw [szl]; have := HM.out; omega), List.drop_eq_nil_of_le (show B.data.toList.length ≤ 3 by rw [szl]; have := HM.out; omega)])⟩
            case measure =>
              show (B.extract 3 B.size).size < B.size
              rw [ByteArray.size_extract]
              have := HM.out; omega
      · have hmm : (B.size : Int) = 2 := by omega
        have HM := Lib.hid hm
        have HLL := Lib.hid (show l4.length = 2 by rw [HFL.out]; omega)
        clear hm
        go_wp2_with fail
        go_loop [4, 6] (fun vv kv => ∃ k x : Nat, k ≤ 4 ∧ kv = .int .i64 (k : Int) ∧ vv = .int .i64 (x : Int) ∧ Hid (x = pv l4 k)) (fun _ kv => 4 - (intOf kv).toNat)
        case atStart => exact ⟨0, 0, by omega, rfl, rfl, Lib.hid rfl⟩
        case round =>
          obtain ⟨k, x, hk, rfl, rfl, hx⟩ := hrel
          by_cases hk4 : k < 4
          · have hxs : (x : Int) ≤ 16777215 := by have := HPB.out k (by omega); rw [← hx.out] at this; omega
            have dk : decide ((k : Int) < 4) = true := by simp; omega
            by_cases hkm : k < 2
            · have dm : decide ((k : Int) < 2) = true := by simp; omega
              have hkB : k < B.size := by have := HM.out; omega
              have hcb : (B[k].toNat : Int) ≤ 255 := by have := B[k].toNat_lt; omega
              go_wp2_with fail
              go_round
              case rel => exact ⟨k + 1, 256 * x + B[k].toNat, by omega, by go_num, by go_num, Lib.hid (by rw [pv, ← hx.out, HGET.out k hk4 hkB])⟩
              case measure => simp [intOf]; omega
            · have dm : decide ((k : Int) < 2) = false := by simp; omega
              go_wp2_with fail
              go_round
              case rel => exact ⟨k + 1, 256 * x, by omega, by go_num, by go_num, Lib.hid (by rw [pv, ← hx.out, HNON.out k (by have := HM.out; omega)]; rfl)⟩
              case measure => simp [intOf]; omega
          · obtain rfl : k = 4 := by omega
            have hxf : (x : Int) ≤ 4294967295 := by have := HPF.out; rw [← hx.out] at this; omega
            have HXV := Lib.hid (hx.out.trans HPV.out)
            obtain ⟨E, hE⟩ : ∃ E : ByteArray, (⟨((five x).take 3).toArray⟩ : ByteArray) = E := ⟨_, rfl⟩
            have hcv := fun W : World => (LB.arr W 52 _ 3 5 (five x) (five_cells x) rfl (by omega)).str
            rw [hE] at hcv
            have HEE := Lib.hid (show E.data.toList = (five x).take 3 by rw [← hE])
            have hEz : E.size ≤ 5 := by rw [← szl E, HEE.out, List.length_take]; first | (simp [five]; done) | (simp [five]; omega)
            clear hE
            go_wp2_with fail
            refine (rfive_any x _ hxf).mono ?_
            rintro e_ w2 ⟨rfl, hb1⟩
            have HB2 := Lib.hid (balloc (btrans HB.out hb1) (.cells #[.int .u8 (33 + (x : Int) / 85 / 85 / 85 / 85 % 85), .int .u8 (33 + (x : Int) / 85 / 85 / 85 % 85), .int .u8 (33 + (x : Int) / 85 / 85 % 85), .int .u8 (33 + (x : Int) / 85 % 85), .int .u8 (33 + (x : Int) % 85)] 52))
            clear hb1
            go_wp2_with fail
            go_roundw
            case rel => exact ⟨B.extract 2 B.size, S ++ E, f, r + 1, d ++ eone l4, rfl, rfl, by rw [ByteArray.size_extract]; have := HM.out; omega, by rw [ByteArray.size_extract]; have := HM.out; omega, by have := HEL.out; rw [List.length_append]; omega, Lib.hid (by rw [app_list, HS.out, HEE.out, eone_five HXV.out HLL.out (fun h => absurd h.2 (by decide))]; rfl), HB2, Lib.hid (by rw [HGG.out, drop_list, List.append_assoc, List.drop_eq_nil_of_le (show B.data.toList.length ≤ 4 by rw [szl]; have := HM.out; omega), List.drop_eq_nil_of_le (show B.data.toList.length ≤ 2 by rw [szl]; have := HM.out; omega)])⟩
            case measure =>
              show (B.extract 2 B.size).size < B.size
              rw [ByteArray.size_extract]
              have := HM.out; omega
      · have hmm : (B.size : Int) = 1 := by omega
        have HM := Lib.hid hm
        have HLL := Lib.hid (show l4.length = 1 by rw [HFL.out]; omega)
        clear hm
        go_wp2_with fail
        go_loop [4, 6] (fun vv kv => ∃ k x : Nat, k ≤ 4 ∧ kv = .int .i64 (k : Int) ∧ vv = .int .i64 (x : Int) ∧ Hid (x = pv l4 k)) (fun _ kv => 4 - (intOf kv).toNat)
        case atStart => exact ⟨0, 0, by omega, rfl, rfl, Lib.hid rfl⟩
        case round =>
          obtain ⟨k, x, hk, rfl, rfl, hx⟩ := hrel
          by_cases hk4 : k < 4
          · have hxs : (x : Int) ≤ 16777215 := by have := HPB.out k (by omega); rw [← hx.out] at this; omega
            have dk : decide ((k : Int) < 4) = true := by simp; omega
            by_cases hkm : k < 1
            · have dm : decide ((k : Int) < 1) = true := by simp; omega
              have hkB : k < B.size := by have := HM.out; omega
              have hcb : (B[k].toNat : Int) ≤ 255 := by have := B[k].toNat_lt; omega
              go_wp2_with fail
              go_round
              case rel => exact ⟨k + 1, 256 * x + B[k].toNat, by omega, by go_num, by go_num, Lib.hid (by rw [pv, ← hx.out, HGET.out k hk4 hkB])⟩
              case measure => simp [intOf]; omega
            · have dm : decide ((k : Int) < 1) = false := by simp; omega
              go_wp2_with fail
              go_round
              case rel => exact ⟨k + 1, 256 * x, by omega, by go_num, by go_num, Lib.hid (by rw [pv, ← hx.out, HNON.out k (by have := HM.out; omega)]; rfl)⟩
              case measure => simp [intOf]; omega
          · obtain rfl : k = 4 := by omega
            have hxf : (x : Int) ≤ 4294967295 := by have := HPF.out; rw [← hx.out] at this; omega
            have HXV := Lib.hid (hx.out.trans HPV.out)
            obtain ⟨E, hE⟩ : ∃ E : ByteArray, (⟨((five x).take 2).toArray⟩ : ByteArray) = E := ⟨_, rfl⟩
            have hcv := fun W : World => (LB.arr W 52 _ 2 5 (five x) (five_cells x) rfl (by omega)).str
            rw [hE] at hcv
            have HEE := Lib.hid (show E.data.toList = (five x).take 2 by rw [← hE])
            have hEz : E.size ≤ 5 := by rw [← szl E, HEE.out, List.length_take]; first | (simp [five]; done) | (simp [five]; omega)
            clear hE
            go_wp2_with fail
            refine (rfive_any x _ hxf).mono ?_
            rintro e_ w2 ⟨rfl, hb1⟩
            have HB2 := Lib.hid (balloc (btrans HB.out hb1) (.cells #[.int .u8 (33 + (x : Int) / 85 / 85 / 85 / 85 % 85), .int .u8 (33 + (x : Int) / 85 / 85 / 85 % 85), .int .u8 (33 + (x : Int) / 85 / 85 % 85), .int .u8 (33 + (x : Int) / 85 % 85), .int .u8 (33 + (x : Int) % 85)] 52))
            clear hb1
            go_wp2_with fail
            go_roundw
            case rel => exact ⟨B.extract 1 B.size, S ++ E, f, r + 1, d ++ eone l4, rfl, rfl, by rw [ByteArray.size_extract]; have := HM.out; omega, by rw [ByteArray.size_extract]; have := HM.out; omega, by have := HEL.out; rw [List.length_append]; omega, Lib.hid (by rw [app_list, HS.out, HEE.out, eone_five HXV.out HLL.out (fun h => absurd h.2 (by decide))]; rfl), HB2, Lib.hid (by rw [HGG.out, drop_list, List.append_assoc, List.drop_eq_nil_of_le (show B.data.toList.length ≤ 4 by rw [szl]; have := HM.out; omega), List.drop_eq_nil_of_le (show B.data.toList.length ≤ 1 by rw [szl]; have := HM.out; omega)])⟩
            case measure =>
              show (B.extract 1 B.size).size < B.size
              rw [ByteArray.size_extract]
              have := HM.out; omega
    · have hB0 : B.data.toList = [] := by
        apply List.eq_nil_of_length_eq_zero
        have := szl B
        omega
      have HE := Lib.hid (show G = d by rw [HGG.out, hB0, groups_nil, List.append_nil])
      clear hB0
      have dz : decide ((0 : Int) < (B.size : Int)) = false := by rw [decide_eq_false_iff_not]; omega
      go_wp2_with fail
      go_ret
      have e : (S ++ { data := #[126, 62] } : ByteArray) = ⟨(60 :: 126 :: (G ++ [126, 62])).toArray⟩ := by
        have e2 : (S ++ { data := #[126, 62] } : ByteArray).data.toList = 60 :: 126 :: (G ++ [126, 62]) := by
          rw [app_list, HS.out, HE.out]; rfl
        rw [← e2, str_eq]
      rw [e]
      exact ⟨rfl, HB.out⟩
end Go.Proofs.Ytdonjnngohmknaa.qt
