/-
  Layer 7: the contract of quote's Eighty.
-/
import Derived.Test.YtdonjnngohmknaaQHexS
import Derived.LoopN
namespace Go.Proofs.Ytdonjnngohmknaa.qt
set_option linter.unusedVariables false
set_option linter.unusedSimpArgs false
open Go.RowKit bs lf ch

/-- the number of the first k bytes -/
def pv (l : List UInt8) : Nat → Nat
  | 0 => 0
  | k + 1 => 256 * pv l k + (l.getD k 0).toNat
theorem pv_bd (l : List UInt8) (k : Nat) : pv l k + 1 ≤ 256 ^ k := by
  induction k with
  | zero => simp [pv]
  | succ k ih =>
    have := (l.getD k 0).toNat_lt
    rw [pv, Nat.pow_succ]
    omega
theorem pv_val (l : List UInt8) : pv l 4 = val4 l := by simp only [pv, val4]; omega
theorem pv_small (l : List UInt8) (k : Nat) (h : k ≤ 3) : pv l k ≤ 16777215 := by
  have h1 := pv_bd l k
  have h2 : 256 ^ k ≤ 256 ^ 3 := Nat.pow_le_pow_right (by omega) h
  omega
theorem pv_four (l : List UInt8) : pv l 4 ≤ 4294967295 := by have := pv_bd l 4; omega
theorem four_get (s : ByteArray) (i k : Nat) (hk : k < 4) (h : i + k < s.size) : ((s.data.toList.drop i).take 4).getD k 0 = s[i + k] := by
  rw [List.getD_eq_getElem?_getD, List.getElem?_take, if_pos hk, List.getElem?_drop, List.getElem?_eq_getElem (by simpa using h)]
  rfl
theorem four_none (s : ByteArray) (i k : Nat) (h : s.size ≤ i + k) : ((s.data.toList.drop i).take 4).getD k 0 = 0 := by
  rw [List.getD_eq_getElem?_getD, List.getElem?_eq_none (by simp; omega)]
  rfl
theorem four_len (s : ByteArray) (i m : Nat) (h : (4 ≤ m ∧ m = 4 ∧ i + 4 ≤ s.size) ∨ (s.size = i + m ∧ m ≤ 4)) : ((s.data.toList.drop i).take 4).length = m := by
  simp; omega
theorem eone_len (l : List UInt8) : (eone l).length ≤ 5 := by
  unfold eone
  split
  · simp
  · rw [List.length_take]; simp [five]; omega
theorem groups_step (f : Nat) (l : List UInt8) (h : l ≠ []) : groups (f + 1) l = eone (l.take 4) ++ groups f (l.drop 4) := by
  cases l with
  | nil => exact absurd rfl h
  | cons c r => rfl
def dg (v t : Nat) : Value := .int .u8 ((UInt8.ofNat (33 + v / 85 ^ t % 85)).toNat : Int)
/-- the array of the digits behind t rounds -/
def dcells (v t : Nat) : Array Value := #[if 5 ≤ t then dg v 4 else .int .u8 0, if 4 ≤ t then dg v 3 else .int .u8 0, if 3 ≤ t then dg v 2 else .int .u8 0, if 2 ≤ t then dg v 1 else .int .u8 0, if 1 ≤ t then dg v 0 else .int .u8 0]
theorem dg_of (v t x : Nat) (h : x = v / 85 ^ t) : (.int .u8 (33 + (x : Int) % 85) : Value) = dg v t := by
  unfold dg
  subst h
  rw [UInt8.toNat_ofNat']
  congr 1
  omega
theorem dcells_vals (v : Nat) : (dcells v 5).toList = vals (five v) := by
  simp [dcells, dg, vals, five]
theorem div85 (v t x : Nat) (h : x = v / 85 ^ t) : x / 85 = v / 85 ^ (t + 1) := by
  rw [h, Nat.div_div_eq_div_mul, Nat.pow_succ]
theorem LB.of_blk {w : World} {g : Nat} {t : TypeId} {cs : Array Value} {l : List UInt8} (h : Blk w g t cs) (hl : cs.toList = vals l) (k n : Nat) (hn : l.length = n) (hk : k ≤ n) : LB w (some ⟨g, 0, none⟩) k n (l.take k) := by
  refine ⟨Bytes.of_blk h (by simp; omega) hk (fun j hj => ?_), .inr ⟨_, _, rfl, h.lt⟩⟩
  have hj' : j < l.length := by simp at hj; omega
  rw [← Array.getElem?_toList, hl]
  simp [vals, List.getElem?_eq_getElem hj']

theorem five_cells (x : Nat) : ([.int .u8 (33 + (x : Int) / 85 / 85 / 85 / 85 % 85), .int .u8 (33 + (x : Int) / 85 / 85 / 85 % 85), .int .u8 (33 + (x : Int) / 85 / 85 % 85), .int .u8 (33 + (x : Int) / 85 % 85), .int .u8 (33 + (x : Int) % 85)] : List Value) = vals (five x) := by
  have e : ∀ n : Nat, n < 256 → ((UInt8.ofNat n).toNat : Int) = (n : Int) := fun n h => by rw [UInt8.toNat_ofNat']; omega
  simp only [vals, five, List.map_cons, List.map_nil]
  rw [e _ (by omega), e _ (by omega), e _ (by omega), e _ (by omega), e _ (by omega)]
  have h2 : (x : Int) / 85 / 85 = ((x / 7225 : Nat) : Int) := by omega
  have h3 : (x : Int) / 85 / 85 / 85 = ((x / 614125 : Nat) : Int) := by omega
  have h4 : (x : Int) / 85 / 85 / 85 / 85 = ((x / 52200625 : Nat) : Int) := by omega
  rw [h4, h3, h2]
  simp
theorem eone_five {l : List UInt8} {x m : Nat} (hx : x = val4 l) (hl : l.length = m) (h : ¬ (x = 0 ∧ m = 4)) : eone l = (five x).take (m + 1) := by
  rw [eone, if_neg (by rw [← hx, hl]; exact h), ← hx, hl]
theorem eone_z {l : List UInt8} {x : Nat} (hx : x = val4 l) (hl : l.length = 4) (h : x = 0) : eone l = [122] := by
  rw [eone, if_pos ⟨by rw [← hx]; exact h, hl⟩]

set_option maxRecDepth 100000 in
set_option maxHeartbeats 3200000 in
theorem eighty_str (s : ByteArray) (w : World) (hs : s.size ≤ 4001) :
    Calls Try.prog 16 #[.string s] w (StrPost (eightyL s.data.toList) w) := by
  have hlen : s.data.toList.length = s.size := by simp
  obtain ⟨G, hG⟩ : ∃ G, groups s.size s.data.toList = G := ⟨_, rfl⟩
  have hX : eightyL s.data.toList = 60 :: 126 :: (G ++ [126, 62]) := by rw [eightyL, hlen, hG]
  rw [hX]
  have HG := Lib.hid hG
  clear hlen hG hX
  go_enter Try.func16, Try.ntmps16
  go_wp2_with fail
  refine (put_any w.heap.size _ [] (some ⟨_, 0, none⟩) 2 2 [60, 126] _ (OwnB.none_ _ _) (LB.new _ _ 2 [60, 126] rfl rfl) (by simp) (by simp)).mono ?_
  rintro e_ w1 ⟨v1, rfl, ho1, hb1⟩
  have HO1 := Lib.hid ho1
  have HB1 := Lib.hid ((balloc (Below.refl w.heap.size w) _).trans hb1)
  clear ho1 hb1
  go_wp2_with fail
  go_loopw [3, 4] (fun ov iv wr => ∃ i f : Nat, ∃ d : List UInt8, i ≤ s.size + 3 ∧ iv = .int .i64 (i : Int) ∧ 4 * d.length ≤ 5 * i ∧ s.size - i ≤ f ∧ Hid (OwnB wr w.heap.size ov (60 :: 126 :: d)) ∧ Hid (Below w.heap.size w wr) ∧ Hid (G = d ++ groups f (s.data.toList.drop i))) (fun _ iv _ => s.size + 4 - (intOf iv).toNat)
  case atStart => exact ⟨0, s.size, [], by omega, rfl, by simp, by omega, HO1, HB1, Lib.hid HG.out.symm⟩
  case round =>
    obtain ⟨i, f, d, hi, rfl, hdl, hf, HO, HB, HGG⟩ := hrel
    obtain ⟨wo, rfl⟩ : ∃ wo, wo = wr := ⟨_, rfl⟩
    have hsw := HB.out.size
    by_cases hlt : i < s.size
    · obtain ⟨f, rfl⟩ : ∃ g, f = g + 1 := ⟨f - 1, by omega⟩
      have HDS := Lib.hid (dropS s i hlt)
      have hgg := HGG.out
      rw [groups_step f _ (by rw [HDS.out]; simp), List.drop_drop] at hgg
      replace HGG := Lib.hid hgg
      obtain ⟨l4, hl4⟩ : ∃ l4, (s.data.toList.drop i).take 4 = l4 := ⟨_, rfl⟩
      rw [hl4] at HGG
      have hget := four_get s i
      have hnon := four_none s i
      have hfl := four_len s i
      rw [hl4] at hget hnon hfl
      have HGET := Lib.hid hget
      have HNON := Lib.hid hnon
      have HFL := Lib.hid hfl
      have HPB := Lib.hid (pv_small l4)
      have HPF := Lib.hid (pv_four l4)
      have HPV := Lib.hid (pv_val l4)
      have HEL := Lib.hid (eone_len l4)
      clear hl4 hget hnon hfl hgg
      rcases (show i + 4 ≤ s.size ∨ s.size = i + 3 ∨ s.size = i + 2 ∨ s.size = i + 1 by omega) with hm | hm | hm | hm
      · have hmm : (4 : Int) ≤ (s.size : Int) - (i : Int) := by omega
        have HLL := Lib.hid (HFL.out 4 (.inl ⟨Nat.le_refl _, rfl, hm⟩))
        go_wp2_with fail
        go_loop [6, 23] (fun vv kv => ∃ k x : Nat, k ≤ 4 ∧ kv = .int .i64 (k : Int) ∧ vv = .int .i64 (x : Int) ∧ Hid (x = pv l4 k)) (fun _ kv => 4 - (intOf kv).toNat)
        case atStart => exact ⟨0, 0, by omega, rfl, rfl, Lib.hid rfl⟩
        case round =>
          obtain ⟨k, x, hk, rfl, rfl, hx⟩ := hrel
          by_cases hk4 : k < 4
          · have hxs : (x : Int) ≤ 16777215 := by have := HPB.out k (by omega); rw [← hx.out] at this; omega
            have dk : decide ((k : Int) < 4) = true := by simp; omega
            by_cases hkm : k < 4
            · have dm : decide ((k : Int) < 4) = true := by simp; omega
              have hki : i + k < s.size := by omega
              have hcb : (s[i + k].toNat : Int) ≤ 255 := by have := s[i + k].toNat_lt; omega
              go_wp2_with fail
              go_round
              case rel => exact ⟨k + 1, 256 * x + s[i + k].toNat, by omega, by go_num, by go_num, Lib.hid (by rw [pv, ← hx.out, HGET.out k hk4 hki])⟩
              case measure => simp [intOf]; omega
            · exact absurd hk4 hkm
          · obtain rfl : k = 4 := by omega
            have hxf : (x : Int) ≤ 4294967295 := by have := HPF.out; rw [← hx.out] at this; omega
            have HXV := Lib.hid (hx.out.trans HPV.out)
            by_cases hv0 : x = 0
            · have dz : ((x : Int) == 0) = true := by simp; omega
              have HX0 := Lib.hid hv0
              clear hv0
              go_wp2_with fail
              refine (put_any w.heap.size _ (60 :: 126 :: d) (some ⟨_, 0, none⟩) 1 1 [122] _ (HO.out.below (balloc (Below.refl _ _) _)) (LB.new _ _ 1 [122] rfl rfl) (by simp; omega) (by simp; omega)).mono ?_
              rintro e_ w2 ⟨v2, rfl, ho1, hb1⟩
              have HO2 := Lib.hid ho1
              have HB2 := Lib.hid ((HB.out.alloc hsw _).trans hb1)
              clear ho1 hb1
              go_wp2_with fail
              go_roundw
              case rel => exact ⟨i + 4, f, d ++ eone l4, by omega, by go_num, by have := HEL.out; rw [List.length_append]; omega, by omega, Lib.hid (by rw [eone_z HXV.out HLL.out HX0.out]; exact HO2.out), HB2, Lib.hid (by rw [HGG.out, List.append_assoc])⟩
              case measure => simp [intOf]; omega
            · have dz : ((x : Int) == 0) = false := by simpa using hv0
              have HX0 := Lib.hid hv0
              clear hv0
              go_wp2_with fail
              refine wp_loop_rounds 6 ?_
              rw [rounds_succ]
              go_wp2_with fail
              rw [rounds_succ]
              go_wp2_with fail
              rw [rounds_succ]
              go_wp2_with fail
              rw [rounds_succ]
              go_wp2_with fail
              rw [rounds_succ]
              go_wp2_with fail
              rw [rounds_succ]
              go_wp2_with fail
              refine (put_any w.heap.size _ (60 :: 126 :: d) (some ⟨_, 0, none⟩) 5 5 ((five x).take 5) _ (HO.out.below (balloc (Below.refl _ _) _)) (LB.arr _ _ _ 5 5 (five x) (five_cells x) rfl (by omega)) (by simp; omega) (by simp; omega)).mono ?_
              rintro e_ w2 ⟨v2, rfl, ho1, hb1⟩
              have HO2 := Lib.hid ho1
              have HB2 := Lib.hid ((HB.out.alloc hsw _).trans hb1)
              clear ho1 hb1
              go_wp2_with fail
              go_roundw
              case rel => exact ⟨i + 4, f, d ++ eone l4, by omega, by go_num, by have := HEL.out; rw [List.length_append]; omega, by omega, Lib.hid (by rw [eone_five HXV.out HLL.out (fun h => HX0.out h.1)]; exact HO2.out), HB2, Lib.hid (by rw [HGG.out, List.append_assoc])⟩
              case measure => simp [intOf]; omega
      · have hmm : (s.size : Int) - (i : Int) = 3 := by omega
        have HLL := Lib.hid (HFL.out 3 (.inr ⟨hm, by omega⟩))
        have HM := Lib.hid hm
        have hm1 : s.size ≤ i + 3 := by omega
        have hm2 : i + 3 ≤ s.size := by omega
        clear hm
        go_wp2_with fail
        go_loop [6, 23] (fun vv kv => ∃ k x : Nat, k ≤ 4 ∧ kv = .int .i64 (k : Int) ∧ vv = .int .i64 (x : Int) ∧ Hid (x = pv l4 k)) (fun _ kv => 4 - (intOf kv).toNat)
        case atStart => exact ⟨0, 0, by omega, rfl, rfl, Lib.hid rfl⟩
        case round =>
          obtain ⟨k, x, hk, rfl, rfl, hx⟩ := hrel
          by_cases hk4 : k < 4
          · have hxs : (x : Int) ≤ 16777215 := by have := HPB.out k (by omega); rw [← hx.out] at this; omega
            have dk : decide ((k : Int) < 4) = true := by simp; omega
            by_cases hkm : k < 3
            · have dm : decide ((k : Int) < 3) = true := by simp; omega
              have hki : i + k < s.size := by omega
              have hcb : (s[i + k].toNat : Int) ≤ 255 := by have := s[i + k].toNat_lt; omega
              go_wp2_with fail
              go_round
              case rel => exact ⟨k + 1, 256 * x + s[i + k].toNat, by omega, by go_num, by go_num, Lib.hid (by rw [pv, ← hx.out, HGET.out k hk4 hki])⟩
              case measure => simp [intOf]; omega
            · have dm : decide ((k : Int) < 3) = false := by simp; omega
              go_wp2_with fail
              go_round
              case rel => exact ⟨k + 1, 256 * x, by omega, by go_num, by go_num, Lib.hid (by rw [pv, ← hx.out, HNON.out k (by omega)]; rfl)⟩
              case measure => simp [intOf]; omega
          · obtain rfl : k = 4 := by omega
            have hxf : (x : Int) ≤ 4294967295 := by have := HPF.out; rw [← hx.out] at this; omega
            have HXV := Lib.hid (hx.out.trans HPV.out)
            have HX0 := Lib.hid (show ¬ (x = 0 ∧ 3 = 4) from fun h => absurd h.2 (by decide))
            have dz9 : ((x : Int) == 0) = true ∨ ((x : Int) == 0) = false := by cases ((x : Int) == 0) <;> simp
            rcases dz9 with dz | dz
            · go_wp2_with fail
              refine wp_loop_rounds 6 ?_
              rw [rounds_succ]
              go_wp2_with fail
              rw [rounds_succ]
              go_wp2_with fail
              rw [rounds_succ]
              go_wp2_with fail
              rw [rounds_succ]
              go_wp2_with fail
              rw [rounds_succ]
              go_wp2_with fail
              rw [rounds_succ]
              go_wp2_with fail
              refine (put_any w.heap.size _ (60 :: 126 :: d) (some ⟨_, 0, none⟩) 4 5 ((five x).take 4) _ (HO.out.below (balloc (Below.refl _ _) _)) (LB.arr _ _ _ 4 5 (five x) (five_cells x) rfl (by omega)) (by simp; omega) (by simp; omega)).mono ?_
              rintro e_ w2 ⟨v2, rfl, ho1, hb1⟩
              have HO2 := Lib.hid ho1
              have HB2 := Lib.hid ((HB.out.alloc hsw _).trans hb1)
              clear ho1 hb1
              go_wp2_with fail
              go_roundw
              case rel => exact ⟨i + 4, f, d ++ eone l4, by omega, by go_num, by have := HEL.out; rw [List.length_append]; omega, by omega, Lib.hid (by rw [eone_five HXV.out HLL.out HX0.out]; exact HO2.out), HB2, Lib.hid (by rw [HGG.out, List.append_assoc])⟩
              case measure => simp [intOf]; omega
            · go_wp2_with fail
              refine wp_loop_rounds 6 ?_
              rw [rounds_succ]
              go_wp2_with fail
              rw [rounds_succ]
              go_wp2_with fail
              rw [rounds_succ]
              go_wp2_with fail
              rw [rounds_succ]
              go_wp2_with fail
              rw [rounds_succ]
              go_wp2_with fail
              rw [rounds_succ]
              go_wp2_with fail
              refine (put_any w.heap.size _ (60 :: 126 :: d) (some ⟨_, 0, none⟩) 4 5 ((five x).take 4) _ (HO.out.below (balloc (Below.refl _ _) _)) (LB.arr _ _ _ 4 5 (five x) (five_cells x) rfl (by omega)) (by simp; omega) (by simp; omega)).mono ?_
              rintro e_ w2 ⟨v2, rfl, ho1, hb1⟩
              have HO2 := Lib.hid ho1
              have HB2 := Lib.hid ((HB.out.alloc hsw _).trans hb1)
              clear ho1 hb1
              go_wp2_with fail
              go_roundw
              case rel => exact ⟨i + 4, f, d ++ eone l4, by omega, by go_num, by have := HEL.out; rw [List.length_append]; omega, by omega, Lib.hid (by rw [eone_five HXV.out HLL.out HX0.out]; exact HO2.out), HB2, Lib.hid (by rw [HGG.out, List.append_assoc])⟩
              case measure => simp [intOf]; omega
      · have hmm : (s.size : Int) - (i : Int) = 2 := by omega
        have HLL := Lib.hid (HFL.out 2 (.inr ⟨hm, by omega⟩))
        have HM := Lib.hid hm
        have hm1 : s.size ≤ i + 2 := by omega
        have hm2 : i + 2 ≤ s.size := by omega
        clear hm
        go_wp2_with fail
        go_loop [6, 23] (fun vv kv => ∃ k x : Nat, k ≤ 4 ∧ kv = .int .i64 (k : Int) ∧ vv = .int .i64 (x : Int) ∧ Hid (x = pv l4 k)) (fun _ kv => 4 - (intOf kv).toNat)
        case atStart => exact ⟨0, 0, by omega, rfl, rfl, Lib.hid rfl⟩
        case round =>
          obtain ⟨k, x, hk, rfl, rfl, hx⟩ := hrel
          by_cases hk4 : k < 4
          · have hxs : (x : Int) ≤ 16777215 := by have := HPB.out k (by omega); rw [← hx.out] at this; omega
            have dk : decide ((k : Int) < 4) = true := by simp; omega
            by_cases hkm : k < 2
            · have dm : decide ((k : Int) < 2) = true := by simp; omega
              have hki : i + k < s.size := by omega
              have hcb : (s[i + k].toNat : Int) ≤ 255 := by have := s[i + k].toNat_lt; omega
              go_wp2_with fail
              go_round
              case rel => exact ⟨k + 1, 256 * x + s[i + k].toNat, by omega, by go_num, by go_num, Lib.hid (by rw [pv, ← hx.out, HGET.out k hk4 hki])⟩
              case measure => simp [intOf]; omega
            · have dm : decide ((k : Int) < 2) = false := by simp; omega
              go_wp2_with fail
              go_round
              case rel => exact ⟨k + 1, 256 * x, by omega, by go_num, by go_num, Lib.hid (by rw [pv, ← hx.out, HNON.out k (by omega)]; rfl)⟩
              case measure => simp [intOf]; omega
          · obtain rfl : k = 4 := by omega
            have hxf : (x : Int) ≤ 4294967295 := by have := HPF.out; rw [← hx.out] at this; omega
            have HXV := Lib.hid (hx.out.trans HPV.out)
            have HX0 := Lib.hid (show ¬ (x = 0 ∧ 2 = 4) from fun h => absurd h.2 (by decide))
            have dz9 : ((x : Int) == 0) = true ∨ ((x : Int) == 0) = false := by cases ((x : Int) == 0) <;> simp
            rcases dz9 with dz | dz
            · go_wp2_with fail
              refine wp_loop_rounds 6 ?_
              rw [rounds_succ]
              go_wp2_with fail
              rw [rounds_succ]
              go_wp2_with fail
              rw [rounds_succ]
              go_wp2_with fail
              rw [rounds_succ]
              go_wp2_with fail
              rw [rounds_succ]
              go_wp2_with fail
              rw [rounds_succ]
              go_wp2_with fail
              refine (put_any w.heap.size _ (60 :: 126 :: d) (some ⟨_, 0, none⟩) 3 5 ((five x).take 3) _ (HO.out.below (balloc (Below.refl _ _) _)) (LB.arr _ _ _ 3 5 (five x) (five_cells x) rfl (by omega)) (by simp; omega) (by simp; omega)).mono ?_
              rintro e_ w2 ⟨v2, rfl, ho1, hb1⟩
              have HO2 := Lib.hid ho1
              have HB2 := Lib.hid ((HB.out.alloc hsw _).trans hb1)
              clear ho1 hb1
              go_wp2_with fail
              go_roundw
              case rel => exact ⟨i + 4, f, d ++ eone l4, by omega, by go_num, by have := HEL.out; rw [List.length_append]; omega, by omega, Lib.hid (by rw [eone_five HXV.out HLL.out HX0.out]; exact HO2.out), HB2, Lib.hid (by rw [HGG.out, List.append_assoc])⟩
              case measure => simp [intOf]; omega
            · go_wp2_with fail
              refine wp_loop_rounds 6 ?_
              rw [rounds_succ]
              go_wp2_with fail
              rw [rounds_succ]
              go_wp2_with fail
              rw [rounds_succ]
              go_wp2_with fail
              rw [rounds_succ]
              go_wp2_with fail
              rw [rounds_succ]
              go_wp2_with fail
              rw [rounds_succ]
              go_wp2_with fail
              refine (put_any w.heap.size _ (60 :: 126 :: d) (some ⟨_, 0, none⟩) 3 5 ((five x).take 3) _ (HO.out.below (balloc (Below.refl _ _) _)) (LB.arr _ _ _ 3 5 (five x) (five_cells x) rfl (by omega)) (by simp; omega) (by simp; omega)).mono ?_
              rintro e_ w2 ⟨v2, rfl, ho1, hb1⟩
              have HO2 := Lib.hid ho1
              have HB2 := Lib.hid ((HB.out.alloc hsw _).trans hb1)
              clear ho1 hb1
              go_wp2_with fail
              go_roundw
              case rel => exact ⟨i + 4, f, d ++ eone l4, by omega, by go_num, by have := HEL.out; rw [List.length_append]; omega, by omega, Lib.hid (by rw [eone_five HXV.out HLL.out HX0.out]; exact HO2.out), HB2, Lib.hid (by rw [HGG.out, List.append_assoc])⟩
              case measure => simp [intOf]; omega
      · have hmm : (s.size : Int) - (i : Int) = 1 := by omega
        have HLL := Lib.hid (HFL.out 1 (.inr ⟨hm, by omega⟩))
        have HM := Lib.hid hm
        have hm1 : s.size ≤ i + 1 := by omega
        have hm2 : i + 1 ≤ s.size := by omega
        clear hm
        go_wp2_with fail
        go_loop [6, 23] (fun vv kv => ∃ k x : Nat, k ≤ 4 ∧ kv = .int .i64 (k : Int) ∧ vv = .int .i64 (x : Int) ∧ Hid (x = pv l4 k)) (fun _ kv => 4 - (intOf kv).toNat)
        case atStart => exact ⟨0, 0, by omega, rfl, rfl, Lib.hid rfl⟩
        case round =>
          obtain ⟨k, x, hk, rfl, rfl, hx⟩ := hrel
          by_cases hk4 : k < 4
          · have hxs : (x : Int) ≤ 16777215 := by have := HPB.out k (by omega); rw [← hx.out] at this; omega
            have dk : decide ((k : Int) < 4) = true := by simp; omega
            by_cases hkm : k < 1
            · have dm : decide ((k : Int) < 1) = true := by simp; omega
              have hki : i + k < s.size := by omega
              have hcb : (s[i + k].toNat : Int) ≤ 255 := by have := s[i + k].toNat_lt; omega
              go_wp2_with fail
              go_round
              case rel => exact ⟨k + 1, 256 * x + s[i + k].toNat, by omega, by go_num, by go_num, Lib.hid (by rw [pv, ← hx.out, HGET.out k hk4 hki])⟩
              case measure => simp [intOf]; omega
            · have dm : decide ((k : Int) < 1) = false := by simp; omega
              go_wp2_with fail
              go_round
              case rel => exact ⟨k + 1, 256 * x, by omega, by go_num, by go_num, Lib.hid (by rw [pv, ← hx.out, HNON.out k (by omega)]; rfl)⟩
              case measure => simp [intOf]; omega
          · obtain rfl : k = 4 := by omega
            have hxf : (x : Int) ≤ 4294967295 := by have := HPF.out; rw [← hx.out] at this; omega
            have HXV := Lib.hid (hx.out.trans HPV.out)
            have HX0 := Lib.hid (show ¬ (x = 0 ∧ 1 = 4) from fun h => absurd h.2 (by decide))
            have dz9 : ((x : Int) == 0) = true ∨ ((x : Int) == 0) = false := by cases ((x : Int) == 0) <;> simp
            rcases dz9 with dz | dz
            · go_wp2_with fail
              refine wp_loop_rounds 6 ?_
              rw [rounds_succ]
              go_wp2_with fail
              rw [rounds_succ]
              go_wp2_with fail
              rw [rounds_succ]
              go_wp2_with fail
              rw [rounds_succ]
              go_wp2_with fail
              rw [rounds_succ]
              go_wp2_with fail
              rw [rounds_succ]
              go_wp2_with fail
              refine (put_any w.heap.size _ (60 :: 126 :: d) (some ⟨_, 0, none⟩) 2 5 ((five x).take 2) _ (HO.out.below (balloc (Below.refl _ _) _)) (LB.arr _ _ _ 2 5 (five x) (five_cells x) rfl (by omega)) (by simp; omega) (by simp; omega)).mono ?_
              rintro e_ w2 ⟨v2, rfl, ho1, hb1⟩
              have HO2 := Lib.hid ho1
              have HB2 := Lib.hid ((HB.out.alloc hsw _).trans hb1)
              clear ho1 hb1
              go_wp2_with fail
              go_roundw
              case rel => exact ⟨i + 4, f, d ++ eone l4, by omega, by go_num, by have := HEL.out; rw [List.length_append]; omega, by omega, Lib.hid (by rw [eone_five HXV.out HLL.out HX0.out]; exact HO2.out), HB2, Lib.hid (by rw [HGG.out, List.append_assoc])⟩
              case measure => simp [intOf]; omega
            · go_wp2_with fail
              refine wp_loop_rounds 6 ?_
              rw [rounds_succ]
              go_wp2_with fail
              rw [rounds_succ]
              go_wp2_with fail
              rw [rounds_succ]
              go_wp2_with fail
              rw [rounds_succ]
              go_wp2_with fail
              rw [rounds_succ]
              go_wp2_with fail
              rw [rounds_succ]
              go_wp2_with fail
              refine (put_any w.heap.size _ (60 :: 126 :: d) (some ⟨_, 0, none⟩) 2 5 ((five x).take 2) _ (HO.out.below (balloc (Below.refl _ _) _)) (LB.arr _ _ _ 2 5 (five x) (five_cells x) rfl (by omega)) (by simp; omega) (by simp; omega)).mono ?_
              rintro e_ w2 ⟨v2, rfl, ho1, hb1⟩
              have HO2 := Lib.hid ho1
              have HB2 := Lib.hid ((HB.out.alloc hsw _).trans hb1)
              clear ho1 hb1
              go_wp2_with fail
              go_roundw
              case rel => exact ⟨i + 4, f, d ++ eone l4, by omega, by go_num, by have := HEL.out; rw [List.length_append]; omega, by omega, Lib.hid (by rw [eone_five HXV.out HLL.out HX0.out]; exact HO2.out), HB2, Lib.hid (by rw [HGG.out, List.append_assoc])⟩
              case measure => simp [intOf]; omega
    · have HE := Lib.hid (show G = d by rw [HGG.out, dropE s i (by omega)]; cases f <;> simp [groups])
      go_wp2_with fail
      refine (put_any w.heap.size _ (60 :: 126 :: d) (some ⟨_, 0, none⟩) 2 2 [126, 62] _ (HO.out.below (balloc (Below.refl _ _) _)) (LB.new _ _ 2 [126, 62] rfl rfl) (by simp; omega) (by simp only [List.length_cons]; omega)).mono ?_
      rintro e_ w2 ⟨v2, rfl, ho1, hb1⟩
      obtain ⟨A2, c2, rfl, hl2⟩ := ho1.lb
      have hcv := hl2.str
      generalize hn9 : (60 :: 126 :: d ++ [126, 62]).length = n9 at *
      have HB1 := Lib.hid ((HB.out.alloc hsw _).trans hb1)
      clear ho1 hb1 hl2 hn9
      go_wp2_with fail
      go_ret
      exact StrPost.mk (by rw [HE.out]) HB1.out
end Go.Proofs.Ytdonjnngohmknaa.qt
