/-
  Layer 7: the contract of quote's paren.
-/
import Derived.Test.YtdonjnngohmknaaQEsc
namespace Go.Proofs.Ytdonjnngohmknaa.qt
set_option linter.unusedVariables false
set_option linter.unusedSimpArgs false
open Go.RowKit bs lf ch

theorem pr_open (f : Nat) (r : List UInt8) (d : Nat) (b : List UInt8) (n : Nat) : parenR (f + 1) (40 :: r) d b n = if 4000 ≤ b.length then bad 5 else parenR f r (d + 1) (b ++ [40]) (n + 1) := by simp [parenR]
theorem pr_end (f : Nat) (r : List UInt8) (b : List UInt8) (n : Nat) : parenR (f + 1) (41 :: r) 1 b n = (b, ((n + 1 : Nat) : Int), 0) := by simp [parenR]
theorem pr_close (f : Nat) (r : List UInt8) (d : Nat) (b : List UInt8) (n : Nat) (h : d ≠ 1) : parenR (f + 1) (41 :: r) d b n = if 4000 ≤ b.length then bad 5 else parenR f r (d - 1) (b ++ [41]) (n + 1) := by simp [parenR, h]
theorem pr_crlf (f : Nat) (r : List UInt8) (d : Nat) (b : List UInt8) (n : Nat) : parenR (f + 1) (13 :: 10 :: r) d b n = if 4000 ≤ b.length then bad 5 else parenR f r d (b ++ [10]) (n + 2) := by simp [parenR]
theorem pr_cr (f : Nat) (r : List UInt8) (d : Nat) (b : List UInt8) (n : Nat) (h : r.head? ≠ some 10) : parenR (f + 1) (13 :: r) d b n = if 4000 ≤ b.length then bad 5 else parenR f r d (b ++ [10]) (n + 1) := by simp [parenR, h]
theorem pr_bsend (f : Nat) (d : Nat) (b : List UInt8) (n : Nat) : parenR (f + 1) [92] d b n = bad 4 := by simp [parenR]
theorem pr_esc (f : Nat) (r : List UInt8) (d : Nat) (b : List UInt8) (n : Nat) (h : r ≠ []) (x : UInt8) (hx : (esc r).1 = some x) : parenR (f + 1) (92 :: r) d b n = if 4000 ≤ b.length then bad 5 else parenR f (r.drop (esc r).2) d (b ++ [x]) (n + 1 + (esc r).2) := by simp [parenR, h, hx]
theorem pr_skip (f : Nat) (r : List UInt8) (d : Nat) (b : List UInt8) (n : Nat) (h : r ≠ []) (hx : (esc r).1 = none) : parenR (f + 1) (92 :: r) d b n = parenR f (r.drop (esc r).2) d b (n + 1 + (esc r).2) := by simp [parenR, h, hx]
theorem pr_other (f : Nat) (c : UInt8) (r : List UInt8) (d : Nat) (b : List UInt8) (n : Nat) (h1 : c ≠ 40) (h2 : c ≠ 41) (h3 : c ≠ 13) (h4 : c ≠ 92) : parenR (f + 1) (c :: r) d b n = if 4000 ≤ b.length then bad 5 else parenR f r d (b ++ [c]) (n + 1) := by simp [parenR, h1, h2, h3, h4]
theorem oct_len (f : Nat) (r : List UInt8) (v k : Nat) : k ≤ (oct f r v k).2 ∧ (oct f r v k).2 ≤ k + r.length := by
  induction f generalizing r v k with
  | zero => simp [oct]
  | succ f ih =>
    cases r with
    | nil => simp [oct]
    | cons c r =>
      rw [oct]
      split
      · have := ih r (8 * v + (c.toNat - 48)) (k + 1); simp only [List.length_cons]; omega
      · simp
theorem oct_pos (c : UInt8) (r : List UInt8) (h : 48 ≤ c ∧ c ≤ 55) : 1 ≤ (oct 3 (c :: r) 0 0).2 := by
  rw [oct, if_pos h]
  exact (oct_len 2 r _ 1).1
theorem esc_len (c : UInt8) (r : List UInt8) : 1 ≤ (esc (c :: r)).2 ∧ (esc (c :: r)).2 ≤ (c :: r).length := by
  rw [esc]
  have ho := (oct_len 3 (c :: r) 0 0).2
  split; · simp
  split; · simp
  split; · simp
  split; · simp
  split; · simp
  split
  · next h =>
    cases r with
    | nil => simp at h
    | cons a t => simp
  split; · simp
  split
  · next h => exact ⟨oct_pos c r h, by simpa using ho⟩
  · simp

/-- what a reader of bytes leaves: the place behind the end, or what is wrong -/
def TkPost (T : Nat) (R : Res) (w : World) (e : Ending) (w' : World) : Prop := Below T w w' ∧ ∃ b n er, e = .returned (.int .i64 n) ∧ TK w' T b er ∧ ((er = 0 ∧ R = (b, n, 0)) ∨ (er ≠ 0 ∧ R = bad er))
theorem TkPost.ok {T : Nat} {R : Res} {w w' : World} {b : List UInt8} {n : Int} (hb : Below T w w') (ht : TK w' T b 0) (h : R = (b, n, 0)) : TkPost T R w (.returned (.int .i64 n)) w' := ⟨hb, b, n, 0, rfl, ht, .inl ⟨rfl, h⟩⟩
theorem TkPost.no {T : Nat} {R : Res} {w w' : World} {b : List UInt8} {n er : Int} (hb : Below T w w') (ht : TK w' T b er) (he : er ≠ 0) (h : R = bad er) : TkPost T R w (.returned (.int .i64 n)) w' := ⟨hb, b, n, er, rfl, ht, .inr ⟨he, h⟩⟩
theorem below_step {T : Nat} {a w w' : World} (h : Below T a w) (hT : T ≤ w.heap.size) (k : Below w.heap.size w w') : Below T a w' := h.trans (k.mono hT)

set_option maxRecDepth 100000 in
set_option maxHeartbeats 6400000 in
theorem paren_any (s : ByteArray) (T : Nat) (w : World) (hs : s.size ≤ 20000) (h0 : 1 ≤ s.size) (ht : TK w T [] 0) :
    Calls Try.prog 21 #[.pointer (some ⟨T, 0, none⟩), .string s] w (TkPost T (parenR s.size (s.data.toList.drop 1) 1 [] 1) w) := by
  obtain ⟨R, hR⟩ : ∃ R, parenR s.size (s.data.toList.drop 1) 1 [] 1 = R := ⟨_, rfl⟩
  rw [hR]
  have HR := Lib.hid hR
  have HT0 := Lib.hid ht
  have HADD := Lib.hid (fun b A m c k W h1 h2 h3 => add_yes T b 0 A m c k W h1 h2 h3)
  have HADN := Lib.hid (fun b A m c k W h1 h2 h3 h4 h5 => add_no T b 0 A m c k W h1 h2 h3 h4 h5)
  have HESC := Lib.hid (fun i W hi => escape_any s i W hs hi)
  have HBAD := Lib.hid (fun b x W h => bad_any T b 0 x W h)
  have HDS := Lib.hid (dropS s)
  clear hR ht
  go_enter Try.func21, Try.ntmps21
  go_wp2_with fail
  go_loopw [5, 6] (fun dv iv wr => ∃ k f d : Nat, ∃ b : List UInt8, k ≤ s.size ∧ iv = .int .i64 (k : Int) ∧ dv = .int .i64 (d : Int) ∧ 1 ≤ d ∧ d ≤ k ∧ b.length ≤ k ∧ Hid (TK wr T b 0) ∧ Hid (Below T w wr) ∧ s.size - k < f + 1 ∧ Hid (R = parenR f (s.data.toList.drop k) d b k)) (fun _ iv _ => s.size - (intOf iv).toNat)
  case atStart => exact ⟨1, s.size, 1, [], h0, rfl, rfl, Nat.le_refl _, Nat.le_refl _, Nat.zero_le _, HT0, Lib.hid (Below.refl _ _), by omega, Lib.hid HR.out.symm⟩
  case round =>
    obtain ⟨k, f, d, b, hk, rfl, rfl, hd1, hd2, hbl, HT, HB, hf, HRR⟩ := hrel
    obtain ⟨wo, rfl⟩ : ∃ wo, wo = wr := ⟨_, rfl⟩
    by_cases hlt : k < s.size
    · obtain ⟨f, rfl⟩ : ∃ g, f = g + 1 := ⟨f - 1, by omega⟩
      have HTW := Lib.hid HT.out.lt
      have hr0 := HRR.out
      rw [HDS.out k hlt] at hr0
      replace HRR := Lib.hid hr0
      clear hr0
      have hc255 : (s[k].toNat : Int) ≤ 255 := by have := s[k].toNat_lt; omega
      by_cases hc : s[k] = 40
      · have hv : (s[k].toNat : Int) = 40 := by rw [hc]; rfl
        rw [hc] at HRR
        have HCC := Lib.hid hc
        clear hc hc255
        go_wp2_with fail
        by_cases hl : b.length + 1 ≤ 4000
        · refine (HADD.out b (some ⟨_, 0, none⟩) 1 1 [40] _ (HT.out.below (balloc (Below.refl _ _) _)) (LB.new _ _ 1 [40] rfl rfl) hl).mono ?_
          rintro e_ w1 ⟨rfl, ht1, hb1⟩
          have HT1 := Lib.hid ht1
          have HB1 := Lib.hid ((HB.out.alloc (Nat.le_of_lt HTW.out) _).trans hb1)
          clear ht1 hb1
          go_wp2_with fail
          go_roundw
          case rel => exact ⟨k + 1, f, d + 1, b ++ [40], by omega, by go_num, by go_num, by omega, by omega, by simp; omega, HT1, HB1, by omega, Lib.hid (by rw [HRR.out, pr_open, if_neg (by omega)])⟩
          case measure => simp [intOf]; omega
        · refine (HADN.out b (some ⟨_, 0, none⟩) 1 1 [40] _ (HT.out.below (balloc (Below.refl _ _) _)) (LB.new _ _ 1 [40] rfl rfl) (by omega) (by omega) (by omega)).mono ?_
          rintro e_ w1 ⟨rfl, ht1, hb1⟩
          have HT1 := Lib.hid ht1
          have HB1 := Lib.hid ((HB.out.alloc (Nat.le_of_lt HTW.out) _).trans hb1)
          clear ht1 hb1
          go_wp2_with fail
          go_ret
          exact TkPost.no HB1.out HT1.out (by decide) (by rw [HRR.out, pr_open, if_pos (by omega)])
      by_cases hc2 : s[k] = 41
      · replace hc := hc2
        clear hc2
        have hv : (s[k].toNat : Int) = 41 := by rw [hc]; rfl
        rw [hc] at HRR
        have HCC := Lib.hid hc
        clear hc hc255
        by_cases hd : d = 1
        · subst hd
          go_wp2_with fail
          go_ret
          exact TkPost.ok HB.out HT.out (by rw [HRR.out, pr_end]; rfl)
        · have d9 : ((d : Int) - 1 == 0) = false := by simp; omega
          go_wp2_with fail
          by_cases hl : b.length + 1 ≤ 4000
          · refine (HADD.out b (some ⟨_, 0, none⟩) 1 1 [41] _ (HT.out.below (balloc (Below.refl _ _) _)) (LB.new _ _ 1 [41] rfl rfl) hl).mono ?_
            rintro e_ w1 ⟨rfl, ht1, hb1⟩
            have HT1 := Lib.hid ht1
            have HB1 := Lib.hid ((HB.out.alloc (Nat.le_of_lt HTW.out) _).trans hb1)
            clear ht1 hb1
            go_wp2_with fail
            go_roundw
            case rel => exact ⟨k + 1, f, d - 1, b ++ [41], by omega, by go_num, by go_num, by omega, by omega, by simp; omega, HT1, HB1, by omega, Lib.hid (by rw [HRR.out, pr_close _ _ _ _ _ hd, if_neg (by omega)])⟩
            case measure => simp [intOf]; omega
          · refine (HADN.out b (some ⟨_, 0, none⟩) 1 1 [41] _ (HT.out.below (balloc (Below.refl _ _) _)) (LB.new _ _ 1 [41] rfl rfl) (by omega) (by omega) (by omega)).mono ?_
            rintro e_ w1 ⟨rfl, ht1, hb1⟩
            have HT1 := Lib.hid ht1
            have HB1 := Lib.hid ((HB.out.alloc (Nat.le_of_lt HTW.out) _).trans hb1)
            clear ht1 hb1
            go_wp2_with fail
            go_ret
            exact TkPost.no HB1.out HT1.out (by decide) (by rw [HRR.out, pr_close _ _ _ _ _ hd, if_pos (by omega)])
      by_cases hc3 : s[k] = 13
      · replace hc := hc3
        clear hc3 hc2
        have hv : (s[k].toNat : Int) = 13 := by rw [hc]; rfl
        rw [hc] at HRR
        have HCC := Lib.hid hc
        clear hc hc255
        by_cases hk1 : k + 1 < s.size
        · have HD1 := Lib.hid (HDS.out (k + 1) hk1)
          by_cases hn : s[k + 1] = 10
          · have hv1 : (s[k + 1].toNat : Int) = 10 := by rw [hn]; rfl
            have hr0 := HRR.out
            rw [HD1.out, hn] at hr0
            replace HRR := Lib.hid hr0
            clear hr0 hn
            go_wp2_with fail
            by_cases hl : b.length + 1 ≤ 4000
            · refine (HADD.out b (some ⟨_, 0, none⟩) 1 1 [10] _ (HT.out.below (balloc (Below.refl _ _) _)) (LB.new _ _ 1 [10] rfl rfl) hl).mono ?_
              rintro e_ w1 ⟨rfl, ht1, hb1⟩
              have HT1 := Lib.hid ht1
              have HB1 := Lib.hid ((HB.out.alloc (Nat.le_of_lt HTW.out) _).trans hb1)
              clear ht1 hb1
              go_wp2_with fail
              go_roundw
              case rel => exact ⟨k + 1 + 1, f, d, b ++ [10], by omega, by go_num, by go_num, by omega, by omega, by simp; omega, HT1, HB1, by omega, Lib.hid (by rw [HRR.out, pr_crlf, if_neg (by omega)])⟩
              case measure => simp [intOf]; omega
            · refine (HADN.out b (some ⟨_, 0, none⟩) 1 1 [10] _ (HT.out.below (balloc (Below.refl _ _) _)) (LB.new _ _ 1 [10] rfl rfl) (by omega) (by omega) (by omega)).mono ?_
              rintro e_ w1 ⟨rfl, ht1, hb1⟩
              have HT1 := Lib.hid ht1
              have HB1 := Lib.hid ((HB.out.alloc (Nat.le_of_lt HTW.out) _).trans hb1)
              clear ht1 hb1
              go_wp2_with fail
              go_ret
              exact TkPost.no HB1.out HT1.out (by decide) (by rw [HRR.out, pr_crlf, if_pos (by omega)])
          · have hv1 : ((s[k + 1].toNat : Int) == 10) = false := by
              rw [beq_eq_false_iff_ne]
              exact fun e => hn ((u8e _ 10).2 e)
            have HN := Lib.hid (show (s.data.toList.drop (k + 1)).head? ≠ some 10 by rw [HD1.out]; simpa using hn)
            clear hn
            go_wp2_with fail
            by_cases hl : b.length + 1 ≤ 4000
            · refine (HADD.out b (some ⟨_, 0, none⟩) 1 1 [10] _ (HT.out.below (balloc (Below.refl _ _) _)) (LB.new _ _ 1 [10] rfl rfl) hl).mono ?_
              rintro e_ w1 ⟨rfl, ht1, hb1⟩
              have HT1 := Lib.hid ht1
              have HB1 := Lib.hid ((HB.out.alloc (Nat.le_of_lt HTW.out) _).trans hb1)
              clear ht1 hb1
              go_wp2_with fail
              go_roundw
              case rel => exact ⟨k + 1, f, d, b ++ [10], by omega, by go_num, by go_num, by omega, by omega, by simp; omega, HT1, HB1, by omega, Lib.hid (by rw [HRR.out, pr_cr _ _ _ _ _ HN.out, if_neg (by omega)])⟩
              case measure => simp [intOf]; omega
            · refine (HADN.out b (some ⟨_, 0, none⟩) 1 1 [10] _ (HT.out.below (balloc (Below.refl _ _) _)) (LB.new _ _ 1 [10] rfl rfl) (by omega) (by omega) (by omega)).mono ?_
              rintro e_ w1 ⟨rfl, ht1, hb1⟩
              have HT1 := Lib.hid ht1
              have HB1 := Lib.hid ((HB.out.alloc (Nat.le_of_lt HTW.out) _).trans hb1)
              clear ht1 hb1
              go_wp2_with fail
              go_ret
              exact TkPost.no HB1.out HT1.out (by decide) (by rw [HRR.out, pr_cr _ _ _ _ _ HN.out, if_pos (by omega)])
        · have HN := Lib.hid (show (s.data.toList.drop (k + 1)).head? ≠ some 10 by rw [dropE s _ (by omega)]; simp)
          go_wp2_with fail
          by_cases hl : b.length + 1 ≤ 4000
          · refine (HADD.out b (some ⟨_, 0, none⟩) 1 1 [10] _ (HT.out.below (balloc (Below.refl _ _) _)) (LB.new _ _ 1 [10] rfl rfl) hl).mono ?_
            rintro e_ w1 ⟨rfl, ht1, hb1⟩
            have HT1 := Lib.hid ht1
            have HB1 := Lib.hid ((HB.out.alloc (Nat.le_of_lt HTW.out) _).trans hb1)
            clear ht1 hb1
            go_wp2_with fail
            go_roundw
            case rel => exact ⟨k + 1, f, d, b ++ [10], by omega, by go_num, by go_num, by omega, by omega, by simp; omega, HT1, HB1, by omega, Lib.hid (by rw [HRR.out, pr_cr _ _ _ _ _ HN.out, if_neg (by omega)])⟩
            case measure => simp [intOf]; omega
          · refine (HADN.out b (some ⟨_, 0, none⟩) 1 1 [10] _ (HT.out.below (balloc (Below.refl _ _) _)) (LB.new _ _ 1 [10] rfl rfl) (by omega) (by omega) (by omega)).mono ?_
            rintro e_ w1 ⟨rfl, ht1, hb1⟩
            have HT1 := Lib.hid ht1
            have HB1 := Lib.hid ((HB.out.alloc (Nat.le_of_lt HTW.out) _).trans hb1)
            clear ht1 hb1
            go_wp2_with fail
            go_ret
            exact TkPost.no HB1.out HT1.out (by decide) (by rw [HRR.out, pr_cr _ _ _ _ _ HN.out, if_pos (by omega)])
      by_cases hc4 : s[k] = 92
      · replace hc := hc4
        clear hc4 hc3 hc2
        have hv : (s[k].toNat : Int) = 92 := by rw [hc]; rfl
        rw [hc] at HRR
        have HCC := Lib.hid hc
        clear hc hc255
        by_cases hk1 : k + 1 < s.size
        · have HD1 := Lib.hid (HDS.out (k + 1) hk1)
          have d9 : ((k : Int) + 1 == (s.size : Int)) = false := by simp; omega
          have HNE := Lib.hid (show s.data.toList.drop (k + 1) ≠ [] by rw [HD1.out]; simp)
          have hel := esc_len s[k + 1] (s.data.toList.drop (k + 1 + 1))
          rw [← HD1.out] at hel
          have hdl : (s.data.toList.drop (k + 1)).length = s.size - (k + 1) := by simp
          rw [hdl] at hel
          clear hdl
          obtain ⟨x, hx⟩ : ∃ x, esc (s.data.toList.drop (k + 1)) = x := ⟨_, rfl⟩
          have HX := Lib.hid hx
          rw [hx] at hel
          clear hx
          obtain ⟨x1, m⟩ := x
          obtain ⟨hm1, hm2⟩ := hel
          simp only at hm1 hm2
          have hdd : (s.data.toList.drop (k + 1)).drop m = s.data.toList.drop (k + 1 + m) := by rw [List.drop_drop]
          have HDD := Lib.hid hdd
          clear hdd
          go_wp2_with fail
          refine (HESC.out (k + 1) _ hk1).mono ?_
          rintro e_ w1 ⟨rfl, hb1⟩
          have HT1 := Lib.hid (HT.out.below hb1)
          have HB1 := Lib.hid (below_step HB.out (Nat.le_of_lt HTW.out) hb1)
          have HTW1 := Lib.hid HT1.out.lt
          clear hb1
          rw [HX.out]
          unfold escV
          cases x1 with
          | none =>
            simp only [Option.getD_none, Option.isSome_none]
            go_wp2_with fail
            go_roundw
            case rel => exact ⟨k + 1 + m, f, d, b, by omega, by go_num, rfl, by omega, by omega, by omega, HT1, HB1, by omega, Lib.hid (by rw [HRR.out, pr_skip _ _ _ _ _ HNE.out (by rw [HX.out]), HX.out, HDD.out])⟩
            case measure => simp [intOf]; omega
          | some x =>
            simp only [Option.getD_some, Option.isSome_some]
            go_wp2_with fail
            by_cases hl : b.length + 1 ≤ 4000
            · refine (HADD.out b (some ⟨_, 0, none⟩) 1 1 [x] _ (HT1.out.below (balloc (Below.refl _ _) _)) (LB.new _ _ 1 [x] rfl rfl) hl).mono ?_
              rintro e_ w2 ⟨rfl, ht1, hb1⟩
              have HT2 := Lib.hid ht1
              have HB2 := Lib.hid ((HB1.out.alloc (Nat.le_of_lt HTW1.out) _).trans hb1)
              clear ht1 hb1
              go_wp2_with fail
              go_roundw
              case rel => exact ⟨k + 1 + m, f, d, b ++ [x], by omega, by go_num, by go_num, by omega, by omega, by simp; omega, HT2, HB2, by omega, Lib.hid (by rw [HRR.out, pr_esc _ _ _ _ _ HNE.out x (by rw [HX.out]), HX.out, HDD.out, if_neg (by omega)])⟩
              case measure => simp [intOf]; omega
            · refine (HADN.out b (some ⟨_, 0, none⟩) 1 1 [x] _ (HT1.out.below (balloc (Below.refl _ _) _)) (LB.new _ _ 1 [x] rfl rfl) (by omega) (by omega) (by omega)).mono ?_
              rintro e_ w2 ⟨rfl, ht1, hb1⟩
              have HT2 := Lib.hid ht1
              have HB2 := Lib.hid ((HB1.out.alloc (Nat.le_of_lt HTW1.out) _).trans hb1)
              clear ht1 hb1
              go_wp2_with fail
              go_ret
              exact TkPost.no HB2.out HT2.out (by decide) (by rw [HRR.out, pr_esc _ _ _ _ _ HNE.out x (by rw [HX.out]), HX.out, HDD.out, if_pos (by omega)])
        · have d9 : ((k : Int) + 1 == (s.size : Int)) = true := by simp; omega
          have HE := Lib.hid (dropE s (k + 1) (by omega))
          go_wp2_with fail
          refine (HBAD.out b 4 _ HT.out).mono ?_
          rintro e_ w1 ⟨rfl, ht1, hb1⟩
          have HT1 := Lib.hid ht1
          have HB1 := Lib.hid hb1
          clear ht1 hb1
          go_wp2_with fail
          go_ret
          exact TkPost.no (HB.out.trans HB1.out) HT1.out (by decide) (by rw [HRR.out, HE.out, pr_bsend])
      have v1 : ((s[k].toNat : Int) == 40) = false := by rw [beq_eq_false_iff_ne]; exact fun e => hc ((u8e _ 40).2 e)
      have v2 : ((s[k].toNat : Int) == 41) = false := by rw [beq_eq_false_iff_ne]; exact fun e => hc2 ((u8e _ 41).2 e)
      have v3 : ((s[k].toNat : Int) == 13) = false := by rw [beq_eq_false_iff_ne]; exact fun e => hc3 ((u8e _ 13).2 e)
      have v4 : ((s[k].toNat : Int) == 92) = false := by rw [beq_eq_false_iff_ne]; exact fun e => hc4 ((u8e _ 92).2 e)
      have HST := Lib.hid (pr_other f s[k] (s.data.toList.drop (k + 1)) d b k hc hc2 hc3 hc4)
      clear hc hc2 hc3 hc4
      go_wp2_with fail
      by_cases hl : b.length + 1 ≤ 4000
      · refine (HADD.out b (some ⟨_, 0, none⟩) 1 1 [s[k]] _ (HT.out.below (balloc (Below.refl _ _) _)) (LB.new _ _ 1 [s[k]] rfl rfl) hl).mono ?_
        rintro e_ w1 ⟨rfl, ht1, hb1⟩
        have HT1 := Lib.hid ht1
        have HB1 := Lib.hid ((HB.out.alloc (Nat.le_of_lt HTW.out) _).trans hb1)
        clear ht1 hb1
        go_wp2_with fail
        go_roundw
        case rel => exact ⟨k + 1, f, d, b ++ [s[k]], by omega, by go_num, by go_num, by omega, by omega, by simp; omega, HT1, HB1, by omega, Lib.hid (by rw [HRR.out, HST.out, if_neg (by omega)])⟩
        case measure => simp [intOf]; omega
      · refine (HADN.out b (some ⟨_, 0, none⟩) 1 1 [s[k]] _ (HT.out.below (balloc (Below.refl _ _) _)) (LB.new _ _ 1 [s[k]] rfl rfl) (by omega) (by omega) (by omega)).mono ?_
        rintro e_ w1 ⟨rfl, ht1, hb1⟩
        have HT1 := Lib.hid ht1
        have HB1 := Lib.hid ((HB.out.alloc (Nat.le_of_lt HTW.out) _).trans hb1)
        clear ht1 hb1
        go_wp2_with fail
        go_ret
        exact TkPost.no HB1.out HT1.out (by decide) (by rw [HRR.out, HST.out, if_pos (by omega)])
    · obtain rfl : k = s.size := by omega
      have HE := Lib.hid (dropE s s.size (Nat.le_refl _))
      go_wp2_with fail
      refine (HBAD.out b 4 _ HT.out).mono ?_
      rintro e_ w1 ⟨rfl, ht1, hb1⟩
      have HT1 := Lib.hid ht1
      have HB1 := Lib.hid hb1
      clear ht1 hb1
      go_wp2_with fail
      go_ret
      exact TkPost.no (HB.out.trans HB1.out) HT1.out (by decide) (by rw [HRR.out, HE.out]; cases f <;> rfl)
end Go.Proofs.Ytdonjnngohmknaa.qt
