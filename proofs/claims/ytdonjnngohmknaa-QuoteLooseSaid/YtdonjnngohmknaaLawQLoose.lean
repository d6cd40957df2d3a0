/-
  QuoteLoose: blanks within < > and <~ ~>, and the case of hexadecimal digits, do not matter.
-/
import Derived.Test.YtdonjnngohmknaaLawQBack
import Derived.Test.YtdonjnngohmknaaQLoose
import Derived.LoopN
namespace Go.Proofs.Ytdonjnngohmknaa.qt
set_option linter.unusedVariables false
set_option linter.unusedSimpArgs false
open Go.RowKit bs lf ch

/-! ### what was written after i letters of a form -/
def HexRel (L : List UInt8) (i : Nat) (t : List UInt8) : Prop :=
  if i < (hexL L).length then ∃ X, t = 60 :: X ∧ HRun X ((L.flatMap hone).take (i - 1)) ∧ X.head? ≠ some 126 else takeL t = (L, (t.length : Int), 0)
def EiRel (L : List UInt8) (i : Nat) (t : List UInt8) : Prop :=
  if i ≤ (groups L.length L).length + 2 then ∃ X, t = 60 :: 126 :: X ∧ ERun X ((groups L.length L).take (i - 2))
  else if i = (groups L.length L).length + 3 then ∃ X, t = 60 :: 126 :: (X ++ [126]) ∧ ERun X (groups L.length L) else takeL t = (L, (t.length : Int), 0)
theorem hexRel_start (L : List UInt8) : HexRel L 1 [60] := by
  rw [HexRel, if_pos (by rw [hexL_len]; omega)]
  exact ⟨[], rfl, HRun.nil_, by simp⟩
theorem hexRel_blanks (L : List UInt8) (i : Nat) (t G : List UInt8) (hi : i < (hexL L).length) (h : HexRel L i t) (hG : ∀ c ∈ G, kind (c.toNat : Int) = 1) : HexRel L i (t ++ G) := by
  rw [HexRel, if_pos hi] at h ⊢
  obtain ⟨X, rfl, h1, h2⟩ := h
  exact ⟨X ++ G, rfl, h1.blanks G hG, head_blanks h2 G hG⟩
theorem hexRel_step (L : List UInt8) (hL : L.length ≤ 4000) (i : Nat) (t : List UInt8) (c c' : UInt8) (h1 : 1 ≤ i) (hi : i < (hexL L).length) (hc : (hexL L)[i]? = some c) (hcc : c' = c ∨ ((97 ≤ c.toNat ∧ c.toNat ≤ 102) ∧ c'.toNat = c.toNat - 32)) (h : HexRel L i t) : HexRel L (i + 1) (t ++ [c']) := by
  obtain ⟨m, hok⟩ := hex_ok L hL
  have hlen := hexL_len L
  have hfl := fmh_len L
  obtain ⟨j, rfl⟩ : ∃ j, i = j + 1 := ⟨i - 1, by omega⟩
  have hc2 : (L.flatMap hone ++ [62])[j]? = some c := by
    unfold hexL at hc
    rwa [List.getElem?_cons_succ] at hc
  rw [HexRel, if_pos hi] at h
  obtain ⟨X, rfl, hr, hx⟩ := h
  rw [Nat.add_sub_cancel] at hr
  by_cases hj : j < (L.flatMap hone).length
  · rw [List.getElem?_append_left hj] at hc2
    have hmem : c ∈ L.flatMap hone := List.mem_of_getElem? hc2
    have hd := hone_dig L c hmem
    obtain ⟨k1, k2, k3⟩ := hdig_facts c hd
    have hsp : L.flatMap hone ++ [62] = (L.flatMap hone).take j ++ c :: ((L.flatMap hone).drop (j + 1) ++ [62]) := by
      have e : L.flatMap hone = (L.flatMap hone).take j ++ (L.flatMap hone).drop j := (List.take_append_drop _ _).symm
      have e2 : (L.flatMap hone).drop j = c :: (L.flatMap hone).drop (j + 1) := by
        rw [List.drop_eq_getElem_cons hj]
        congr 1
        rw [List.getElem?_eq_getElem hj] at hc2
        exact Option.some.inj hc2
      rw [e2] at e
      conv => lhs; rw [e]
      rw [List.append_assoc]; rfl
    rw [hsp] at hok
    have htk : (L.flatMap hone).take (j + 1) = (L.flatMap hone).take j ++ [c] := by
      rw [List.take_succ_eq_append_getElem hj]
      rw [List.getElem?_eq_getElem hj] at hc2
      rw [Option.some.inj hc2]
    rw [HexRel, if_pos (by omega), Nat.add_sub_cancel, htk]
    rcases hcc with rfl | ⟨g1, g2⟩
    · exact ⟨X ++ [c'], rfl, hr.char c' c' hok k1 k1 k2 k2 rfl, head_snoc hx k3⟩
    · obtain ⟨q1, q2, q3, q4⟩ := great_facts c c' g1 g2
      exact ⟨X ++ [c'], rfl, hr.char c c' hok k1 q1 k2 q2 q4, head_snoc hx q3⟩
  · have hje : j = (L.flatMap hone).length := by omega
    subst hje
    rw [List.getElem?_append_right (Nat.le_refl _), Nat.sub_self] at hc2
    have hc6 : c = 62 := by simpa using hc2.symm
    subst hc6
    rcases hcc with rfl | ⟨g1, g2⟩
    · rw [HexRel, if_neg (by omega)]
      rw [List.take_of_length_le (Nat.le_refl _)] at hr
      have := take_hrun hr hok hx
      show takeL (60 :: (X ++ [62])) = _
      rw [this]
      simp
      omega
    · exact absurd g1.1 (by decide)
theorem hexRel_end (L : List UInt8) (i : Nat) (t : List UInt8) (hi : (hexL L).length ≤ i) (h : HexRel L i t) : takeL t = (L, (t.length : Int), 0) := by
  rwa [HexRel, if_neg (by omega)] at h
theorem eiRel_start (L : List UInt8) : EiRel L 2 [60, 126] := by
  rw [EiRel, if_pos (by omega)]
  exact ⟨[], rfl, ERun.nil_⟩
theorem eiRel_blanks (L : List UInt8) (i : Nat) (t G : List UInt8) (hi : i + 1 < (eightyL L).length) (h : EiRel L i t) (hG : ∀ c ∈ G, kind (c.toNat : Int) = 1) : EiRel L i (t ++ G) := by
  rw [eightyL_len] at hi
  rw [EiRel, if_pos (by omega)] at h ⊢
  obtain ⟨X, rfl, h1⟩ := h
  exact ⟨X ++ G, rfl, h1.blanks G hG⟩
theorem eiRel_step (L : List UInt8) (hL : L.length ≤ 4000) (i : Nat) (t : List UInt8) (c : UInt8) (h1 : 2 ≤ i) (hi : i < (eightyL L).length) (hc : (eightyL L)[i]? = some c) (h : EiRel L i t) : EiRel L (i + 1) (t ++ [c]) := by
  obtain ⟨m, hok⟩ := eighty_ok L hL
  rw [eightyL_len] at hi
  obtain ⟨j, rfl⟩ : ∃ j, i = j + 2 := ⟨i - 2, by omega⟩
  unfold eightyL at hc
  rw [List.getElem?_cons_succ, List.getElem?_cons_succ] at hc
  obtain ⟨G, hG⟩ : ∃ G, groups L.length L = G := ⟨_, rfl⟩
  have hne := groups_ne L.length L
  unfold EiRel at h ⊢
  rw [hG] at h hc hok hi hne ⊢
  by_cases hj : j < G.length
  · rw [if_pos (by omega), Nat.add_sub_cancel] at h
    rw [if_pos (by omega), show j + 2 + 1 - 2 = j + 1 by omega]
    rw [List.getElem?_append_left hj] at hc
    obtain ⟨X, rfl, hr⟩ := h
    have hce : G[j] = c := by
      rw [List.getElem?_eq_getElem hj] at hc
      exact Option.some.inj hc
    have hsp : G ++ [126, 62] = G.take j ++ c :: (G.drop (j + 1) ++ [126, 62]) := by
      have e : G = G.take j ++ G.drop j := (List.take_append_drop _ _).symm
      have e2 : G.drop j = c :: G.drop (j + 1) := by rw [List.drop_eq_getElem_cons hj, hce]
      rw [e2] at e
      conv => lhs; rw [e]
      rw [List.append_assoc]; rfl
    rw [hsp] at hok
    rw [List.take_succ_eq_append_getElem hj, hce]
    exact ⟨X ++ [c], rfl, hr.char c hok (hne c (List.mem_of_getElem? hc))⟩
  · rw [List.getElem?_append_right (by omega)] at hc
    rcases (show j = G.length ∨ j = G.length + 1 by omega) with rfl | rfl
    · rw [Nat.sub_self] at hc
      have hc6 : c = 126 := by simpa using hc.symm
      subst hc6
      rw [if_pos (by omega), Nat.add_sub_cancel, List.take_of_length_le (Nat.le_refl _)] at h
      obtain ⟨X, rfl, hr⟩ := h
      rw [if_neg (by omega), if_pos (by omega)]
      exact ⟨X, by simp, hr⟩
    · rw [show G.length + 1 - G.length = 1 by omega] at hc
      have hc6 : c = 62 := by simpa using hc.symm
      subst hc6
      rw [if_neg (by omega), if_pos (by omega)] at h
      obtain ⟨X, rfl, hr⟩ := h
      rw [if_neg (by omega), if_neg (by omega)]
      have := take_erun hr hok
      have e : (60 :: 126 :: (X ++ [126])) ++ [62] = 60 :: 126 :: (X ++ [126, 62]) := by simp
      rw [e, this]
      simp
      omega
theorem eiRel_end (L : List UInt8) (i : Nat) (t : List UInt8) (hi : (eightyL L).length ≤ i) (h : EiRel L i t) : takeL t = (L, (t.length : Int), 0) := by
  rw [eightyL_len] at hi
  rwa [EiRel, if_neg (by omega), if_neg (by omega)] at h

/-! ### the blanks by a number -/
def gapS (g : Nat) : ByteArray := if g % 4 = 0 then { data := #[] } else if g % 4 = 1 then { data := #[32] } else if g % 4 = 2 then { data := #[10] } else { data := #[0, 9] }
theorem gapS_blank (g : Nat) : ∀ c ∈ (gapS g).data.toList, kind (c.toNat : Int) = 1 := by
  unfold gapS
  split
  · intro c hc; simp at hc
  split
  · intro c hc; simp at hc; subst hc; decide
  split
  · intro c hc; simp at hc; subst hc; decide
  · intro c hc
    simp at hc
    rcases hc with rfl | rfl <;> decide
theorem gapS_size (g : Nat) : (gapS g).size ≤ 2 := by
  unfold gapS
  split
  · decide
  split
  · decide
  split <;> decide
theorem gap_index (g : Nat) (W : World) : (Instr.index 34 (.agg #[.string { data := #[] }, .string { data := #[32] }, .string { data := #[10] }, .string { data := #[0, 9] }]) (.int .u8 ((g : Int) % 4))).run Try.prog W = .ok (.string (gapS g)) W := by
  rcases (show g % 4 = 0 ∨ g % 4 = 1 ∨ g % 4 = 2 ∨ g % 4 = 3 by omega) with h | h | h | h
  · rw [show (g : Int) % 4 = 0 by omega, gapS, if_pos h]; kernel_rfl
  · rw [show (g : Int) % 4 = 1 by omega, gapS, if_neg (by omega), if_pos h]; kernel_rfl
  · rw [show (g : Int) % 4 = 2 by omega, gapS, if_neg (by omega), if_neg (by omega), if_pos h]; kernel_rfl
  · rw [show (g : Int) % 4 = 3 by omega, gapS, if_neg (by omega), if_neg (by omega), if_neg (by omega)]; kernel_rfl

set_option maxRecDepth 100000 in
set_option maxHeartbeats 1600000 in
theorem begins_any (S : ByteArray) (q : Bool) (w : World) (h2 : 2 ≤ S.size) (hq : ((S.extract 0 2).toList == [60, 126]) = q) :
    Calls Try.prog 19 #[.string S, .string { data := #[60, 126] }] w fun e w' => e = .returned (.bool q) ∧ w = w' := by
  have d1 : decide ((2 : Int) ≤ (S.size : Int)) = true := by simp; omega
  go_enter Try.func19, Try.ntmps19
  go_wp2_with fail
  go_ret
  exact ⟨by first | rfl | (rw [hq]), rfl⟩
theorem ext_list (S : ByteArray) (k : Nat) : (S.extract 0 k).data.toList = S.data.toList.take k := by simp
theorem hex_begins (S : ByteArray) (L : List UInt8) (h : S.data.toList = hexL L) : ((S.extract 0 2).toList == [60, 126]) = false := by
  rw [ByteArray.toList_eq, ext_list, h, beq_eq_false_iff_ne]
  unfold hexL
  intro e
  cases hx : L.flatMap hone ++ [62] with
  | nil => simp at hx
  | cons x t =>
    rw [hx] at e
    simp at e
    exact hone_head L [62] (fun x t e => by cases e; decide) x t hx e
theorem eighty_begins (S : ByteArray) (L : List UInt8) (h : S.data.toList = eightyL L) : ((S.extract 0 2).toList == [60, 126]) = true := by
  rw [ByteArray.toList_eq, ext_list, h]
  rfl
theorem size_list (S : ByteArray) : S.data.toList.length = S.size := by simp
theorem get_list (S : ByteArray) (i : Nat) (h : i < S.size) : S.data.toList[i]? = some S[i] := by
  rw [List.getElem?_eq_getElem (by simpa using h)]; rfl
theorem one_str (c : UInt8) (k : Int) (h : k = (c.toNat : Int)) (W : World) : (convert 31 9 (.slice (some ⟨W.heap.size, 0, none⟩) 1 1)).run Try.prog (W.alloc (.cells #[.int .u8 k] 5)) = .ok (.string { data := #[c] }) (W.alloc (.cells #[.int .u8 k] 5)) :=
  (LB.new W #[.int .u8 k] 1 [c] (by rw [h]; rfl) rfl).str
theorem take_is (T b : ByteArray) (hT : T.size ≤ 20000) (h : takeL T.data.toList = (b.data.toList, (T.data.toList.length : Int), 0)) (W : World) : Calls Try.prog 10 #[.string T] W fun e w' => e = .returned (.tuple #[.string b, .int .i64 (T.size : Int), .int .i64 0]) ∧ Below W.heap.size W w' := by
  rw [size_list] at h
  have := take_as T b.data.toList (T.size : Int) 0 hT h W
  rwa [str_eta] at this

set_option maxRecDepth 100000 in
set_option maxHeartbeats 3200000 in
theorem loose_false (b : ByteArray) (A : Option Addr) (n c : Nat) (l : List UInt8) (w : World) (hb : b.size ≤ maxLen) (hl : Bytes w A n c l) (hn : n ≤ 9223372036854775807) :
    Calls Try.prog 6 #[.string b, .slice A n c, .bool false] w fun e w' => e = .returned (.bool true) ∧ Below w.heap.size w w' := by
  have HK := Lib.hid known_any
  have HGP := Lib.hid hl
  unfold maxLen at hb
  clear hl
  by_cases h1 : 100 < b.size
  · have d1 : decide ((100 : Int) < (b.size : Int)) = true := by simp; omega
    go_enter Try.func6, Try.ntmps6
    go_wp2_with fail
    refine (HK.out _).mono ?_
    rintro e_ w1 ⟨rfl, hb1⟩
    have HB1 := Lib.hid hb1
    clear hb1
    go_wp2_with fail
    go_ret
    exact ⟨rfl, HB1.out⟩
  have d1 : decide ((100 : Int) < (b.size : Int)) = false := by simp; omega
  have HX := Lib.hid (fun W => hex_str b W (by omega))
  have HE := Lib.hid (fun W => eighty_str b W (by omega))
  have HBL := Lib.hid (size_list b)
  go_enter Try.func6, Try.ntmps6
  go_wp2_with fail
  refine (HK.out _).mono ?_
  rintro e_ w1 ⟨rfl, hb1⟩
  have HB1 := Lib.hid hb1
  clear hb1
  go_wp2_with fail
  refine (HX.out _).mono ?_
  rintro e_ w2 ⟨rfl, hb2⟩
  obtain ⟨S1, hS1⟩ : ∃ S : ByteArray, (⟨(hexL b.data.toList).toArray⟩ : ByteArray) = S := ⟨_, rfl⟩
  have HS1 := Lib.hid (show S1.data.toList = hexL b.data.toList by rw [← hS1])
  have s1 : S1.size = 2 * b.size + 2 := by rw [← size_list, HS1.out, hexL_len, HBL.out]
  rw [hS1]
  have HB2 := Lib.hid (btrans HB1.out hb2)
  clear hb2 hS1
  have s1a : S1.size ≤ 202 := by omega
  have s1b : 2 ≤ S1.size := by omega
  have HG1 := Lib.hid (fun W => begins_any S1 false W s1b (hex_begins S1 _ HS1.out))
  clear s1
  go_wp2_with fail
  refine (HE.out _).mono ?_
  rintro e_ w3 ⟨rfl, hb3⟩
  obtain ⟨S2, hS2⟩ : ∃ S : ByteArray, (⟨(eightyL b.data.toList).toArray⟩ : ByteArray) = S := ⟨_, rfl⟩
  have HS2 := Lib.hid (show S2.data.toList = eightyL b.data.toList by rw [← hS2])
  have s2 : S2.size = (groups b.data.toList.length b.data.toList).length + 4 := by rw [← size_list, HS2.out, eightyL_len]
  have s2c := groups_len b.data.toList.length b.data.toList (Nat.le_refl _) b.data.toList.length
  rw [HBL.out] at s2 s2c
  rw [hS2]
  have HB3 := Lib.hid (btrans HB2.out hb3)
  clear hb3 hS2
  have s2a : S2.size ≤ 204 := by omega
  have s2b : 4 ≤ S2.size := by omega
  have HG2 := Lib.hid (fun W => begins_any S2 true W (by omega) (eighty_begins S2 _ HS2.out))
  clear s2 s2c
  have ix0 : ∀ W, (Instr.index 33 (.agg #[.string S1, .string S2]) (.int .i64 0)).run Try.prog W = .ok (.string S1) W := fun _ => by kernel_rfl
  have ix1 : ∀ W, (Instr.index 33 (.agg #[.string S1, .string S2]) (.int .i64 1)).run Try.prog W = .ok (.string S2) W := fun _ => by kernel_rfl
  go_wp2_with fail
  refine wp_loop_rounds 3 ?_
  rw [rounds_succ]
  go_wp2_with (go_at_call 19; refine (HG1.out _).mono ?_; rintro e_ w_ ⟨rfl, rfl⟩)
  go_loopw [10, 11] (fun tv iv wr => ∃ T : ByteArray, ∃ i : Nat, tv = .string T ∧ iv = .int .i64 (i : Int) ∧ 1 ≤ i ∧ i ≤ S1.size ∧ T.size ≤ 3 * i ∧ Hid (Below w.heap.size w wr) ∧ Hid (HexRel b.data.toList i T.data.toList)) (fun _ iv _ => S1.size - (intOf iv).toNat)
  case atStart => exact ⟨S1.extract 0 1, 1, rfl, rfl, by omega, by omega, by rw [ByteArray.size_extract]; omega, HB3, Lib.hid (by rw [ext_list, HS1.out]; exact hexRel_start _)⟩
  case round =>
    obtain ⟨T, i, rfl, rfl, hi1, hi2, hT, HB, HR⟩ := hrel
    obtain ⟨wo, rfl⟩ : ∃ wo, wo = wr := ⟨_, rfl⟩
    by_cases hlt : i < S1.size
    · have hc255 : (S1[i].toNat : Int) ≤ 255 := by have := S1[i].toNat_lt; omega
      by_cases hg1 : i < n
      · obtain ⟨bb, o, hA, hblt, hcell⟩ := (HGP.out.below HB.out).at_ (by omega)
        subst hA
        have hnc := HGP.out.2.1
        have hc0 := hcell i hg1
        obtain ⟨g, hg⟩ : ∃ g : Nat, (l.getD i 0).toNat = g := ⟨_, rfl⟩
        have hg255 : (g : Int) ≤ 255 := by have := (l.getD i 0).toNat_lt; omega
        rw [hg] at hc0
        clear hcell hg
        by_cases hg2 : i < S1.size
        · have hgi := gap_index g
          have hgs := gapS_size g
          have HR2 := Lib.hid (show HexRel b.data.toList i (T ++ gapS g).data.toList by
            rw [show (T ++ gapS g).data.toList = T.data.toList ++ (gapS g).data.toList by simp]
            exact hexRel_blanks _ i _ _ (by rw [← HS1.out, size_list]; exact hg2) HR.out (gapS_blank g))
          have hcv := fun W => one_str S1[i] ((S1[i].toNat : Int)) (by first | rfl | (rw [UInt8.toNat_ofNat']; omega)) W
          go_wp2_with fail
          go_roundw
          case rel => exact ⟨(T ++ gapS g) ++ { data := #[S1[i]] }, i + 1, rfl, by go_num, by omega, by omega, by rw [ByteArray.size_append]; show (T ++ gapS g).size + 1 ≤ _; rw [ByteArray.size_append]; omega, Lib.hid (balloc HB.out _), Lib.hid (by rw [show ((T ++ gapS g) ++ { data := #[S1[i]] } : ByteArray).data.toList = (T ++ gapS g).data.toList ++ [S1[i]] by simp]; exact hexRel_step _ (by rw [HBL.out]; omega) i _ _ S1[i] hi1 (by rw [← HS1.out, size_list]; exact hlt) (by rw [← HS1.out]; exact get_list S1 i hlt) (.inl rfl) (HR2.out))⟩
          case measure => simp [intOf]; omega
        · exact absurd hlt hg2
      · have HR2 := HR
        have hcv := fun W => one_str S1[i] ((S1[i].toNat : Int)) (by first | rfl | (rw [UInt8.toNat_ofNat']; omega)) W
        go_wp2_with fail
        go_roundw
        case rel => exact ⟨T ++ { data := #[S1[i]] }, i + 1, rfl, by go_num, by omega, by omega, by rw [ByteArray.size_append]; show T.size + 1 ≤ _; omega, Lib.hid (balloc HB.out _), Lib.hid (by rw [show (T ++ { data := #[S1[i]] } : ByteArray).data.toList = T.data.toList ++ [S1[i]] by simp]; exact hexRel_step _ (by rw [HBL.out]; omega) i _ _ S1[i] hi1 (by rw [← HS1.out, size_list]; exact hlt) (by rw [← HS1.out]; exact get_list S1 i hlt) (.inl rfl) (HR2.out))⟩
        case measure => simp [intOf]; omega
    · have HT := Lib.hid (take_is T b (by omega) (hexRel_end _ i _ (by rw [← HS1.out, size_list]; omega) HR.out))
      go_wp2_with fail
      refine (HT.out _).mono ?_
      rintro e_ wz ⟨rfl, hbz⟩
      have HBZ := Lib.hid (btrans HB.out hbz)
      clear hbz HT HR
      go_wp2_with fail
      rw [rounds_succ]
      go_wp2_with (go_at_call 19; refine (HG2.out _).mono ?_; rintro e_ w_ ⟨rfl, rfl⟩)
      go_loopw [10, 11] (fun tv iv wr => ∃ T : ByteArray, ∃ i : Nat, tv = .string T ∧ iv = .int .i64 (i : Int) ∧ 2 ≤ i ∧ i ≤ S2.size ∧ T.size ≤ 3 * i ∧ Hid (Below w.heap.size w wr) ∧ Hid (EiRel b.data.toList i T.data.toList)) (fun _ iv _ => S2.size - (intOf iv).toNat)
      case atStart => exact ⟨S2.extract 0 2, 2, rfl, rfl, by omega, by omega, by rw [ByteArray.size_extract]; omega, HBZ, Lib.hid (by rw [ext_list, HS2.out]; exact eiRel_start _)⟩
      case round =>
        obtain ⟨T, i, rfl, rfl, hi1, hi2, hT, HB, HR⟩ := hrel
        obtain ⟨wo, rfl⟩ : ∃ wo, wo = wr := ⟨_, rfl⟩
        by_cases hlt : i < S2.size
        · have hc255 : (S2[i].toNat : Int) ≤ 255 := by have := S2[i].toNat_lt; omega
          by_cases hg1 : i < n
          · obtain ⟨bb, o, hA, hblt, hcell⟩ := (HGP.out.below HB.out).at_ (by omega)
            subst hA
            have hnc := HGP.out.2.1
            have hc0 := hcell i hg1
            obtain ⟨g, hg⟩ : ∃ g : Nat, (l.getD i 0).toNat = g := ⟨_, rfl⟩
            have hg255 : (g : Int) ≤ 255 := by have := (l.getD i 0).toNat_lt; omega
            rw [hg] at hc0
            clear hcell hg
            by_cases hg2 : i + 1 < S2.size
            · have hgi := gap_index g
              have hgs := gapS_size g
              have HR2 := Lib.hid (show EiRel b.data.toList i (T ++ gapS g).data.toList by
                rw [show (T ++ gapS g).data.toList = T.data.toList ++ (gapS g).data.toList by simp]
                exact eiRel_blanks _ i _ _ (by rw [← HS2.out, size_list]; exact hg2) HR.out (gapS_blank g))
              have hcv := fun W => one_str S2[i] ((S2[i].toNat : Int)) (by first | rfl | (rw [UInt8.toNat_ofNat']; omega)) W
              go_wp2_with fail
              go_roundw
              case rel => exact ⟨(T ++ gapS g) ++ { data := #[S2[i]] }, i + 1, rfl, by go_num, by omega, by omega, by rw [ByteArray.size_append]; show (T ++ gapS g).size + 1 ≤ _; rw [ByteArray.size_append]; omega, Lib.hid (balloc HB.out _), Lib.hid (by rw [show ((T ++ gapS g) ++ { data := #[S2[i]] } : ByteArray).data.toList = (T ++ gapS g).data.toList ++ [S2[i]] by simp]; exact eiRel_step _ (by rw [HBL.out]; omega) i _ _ hi1 (by rw [← HS2.out, size_list]; exact hlt) (by rw [← HS2.out]; exact get_list S2 i hlt) (HR2.out))⟩
              case measure => simp [intOf]; omega
            · have HR2 := HR
              have hcv := fun W => one_str S2[i] ((S2[i].toNat : Int)) (by first | rfl | (rw [UInt8.toNat_ofNat']; omega)) W
              go_wp2_with fail
              go_roundw
              case rel => exact ⟨T ++ { data := #[S2[i]] }, i + 1, rfl, by go_num, by omega, by omega, by rw [ByteArray.size_append]; show T.size + 1 ≤ _; omega, Lib.hid (balloc HB.out _), Lib.hid (by rw [show (T ++ { data := #[S2[i]] } : ByteArray).data.toList = T.data.toList ++ [S2[i]] by simp]; exact eiRel_step _ (by rw [HBL.out]; omega) i _ _ hi1 (by rw [← HS2.out, size_list]; exact hlt) (by rw [← HS2.out]; exact get_list S2 i hlt) (HR2.out))⟩
              case measure => simp [intOf]; omega
          · have HR2 := HR
            have hcv := fun W => one_str S2[i] ((S2[i].toNat : Int)) (by first | rfl | (rw [UInt8.toNat_ofNat']; omega)) W
            go_wp2_with fail
            go_roundw
            case rel => exact ⟨T ++ { data := #[S2[i]] }, i + 1, rfl, by go_num, by omega, by omega, by rw [ByteArray.size_append]; show T.size + 1 ≤ _; omega, Lib.hid (balloc HB.out _), Lib.hid (by rw [show (T ++ { data := #[S2[i]] } : ByteArray).data.toList = T.data.toList ++ [S2[i]] by simp]; exact eiRel_step _ (by rw [HBL.out]; omega) i _ _ hi1 (by rw [← HS2.out, size_list]; exact hlt) (by rw [← HS2.out]; exact get_list S2 i hlt) (HR2.out))⟩
            case measure => simp [intOf]; omega
        · have HT := Lib.hid (take_is T b (by omega) (eiRel_end _ i _ (by rw [← HS2.out, size_list]; omega) HR.out))
          go_wp2_with fail
          refine (HT.out _).mono ?_
          rintro e_ wz ⟨rfl, hbz⟩
          have HBZ := Lib.hid (btrans HB.out hbz)
          clear hbz HT HR
          go_wp2_with fail
          rw [rounds_succ]
          go_wp2_with fail
          go_ret
          exact ⟨by first | rfl | simp, HBZ.out⟩

set_option maxRecDepth 100000 in
set_option maxHeartbeats 3200000 in
theorem loose_true (b : ByteArray) (A : Option Addr) (n c : Nat) (l : List UInt8) (w : World) (hb : b.size ≤ maxLen) (hl : Bytes w A n c l) (hn : n ≤ 9223372036854775807) :
    Calls Try.prog 6 #[.string b, .slice A n c, .bool true] w fun e w' => e = .returned (.bool true) ∧ Below w.heap.size w w' := by
  have HK := Lib.hid known_any
  have HGP := Lib.hid hl
  unfold maxLen at hb
  clear hl
  by_cases h1 : 100 < b.size
  · have d1 : decide ((100 : Int) < (b.size : Int)) = true := by simp; omega
    go_enter Try.func6, Try.ntmps6
    go_wp2_with fail
    refine (HK.out _).mono ?_
    rintro e_ w1 ⟨rfl, hb1⟩
    have HB1 := Lib.hid hb1
    clear hb1
    go_wp2_with fail
    go_ret
    exact ⟨rfl, HB1.out⟩
  have d1 : decide ((100 : Int) < (b.size : Int)) = false := by simp; omega
  have HX := Lib.hid (fun W => hex_str b W (by omega))
  have HE := Lib.hid (fun W => eighty_str b W (by omega))
  have HBL := Lib.hid (size_list b)
  go_enter Try.func6, Try.ntmps6
  go_wp2_with fail
  refine (HK.out _).mono ?_
  rintro e_ w1 ⟨rfl, hb1⟩
  have HB1 := Lib.hid hb1
  clear hb1
  go_wp2_with fail
  refine (HX.out _).mono ?_
  rintro e_ w2 ⟨rfl, hb2⟩
  obtain ⟨S1, hS1⟩ : ∃ S : ByteArray, (⟨(hexL b.data.toList).toArray⟩ : ByteArray) = S := ⟨_, rfl⟩
  have HS1 := Lib.hid (show S1.data.toList = hexL b.data.toList by rw [← hS1])
  have s1 : S1.size = 2 * b.size + 2 := by rw [← size_list, HS1.out, hexL_len, HBL.out]
  rw [hS1]
  have HB2 := Lib.hid (btrans HB1.out hb2)
  clear hb2 hS1
  have s1a : S1.size ≤ 202 := by omega
  have s1b : 2 ≤ S1.size := by omega
  have HG1 := Lib.hid (fun W => begins_any S1 false W s1b (hex_begins S1 _ HS1.out))
  clear s1
  go_wp2_with fail
  refine (HE.out _).mono ?_
  rintro e_ w3 ⟨rfl, hb3⟩
  obtain ⟨S2, hS2⟩ : ∃ S : ByteArray, (⟨(eightyL b.data.toList).toArray⟩ : ByteArray) = S := ⟨_, rfl⟩
  have HS2 := Lib.hid (show S2.data.toList = eightyL b.data.toList by rw [← hS2])
  have s2 : S2.size = (groups b.data.toList.length b.data.toList).length + 4 := by rw [← size_list, HS2.out, eightyL_len]
  have s2c := groups_len b.data.toList.length b.data.toList (Nat.le_refl _) b.data.toList.length
  rw [HBL.out] at s2 s2c
  rw [hS2]
  have HB3 := Lib.hid (btrans HB2.out hb3)
  clear hb3 hS2
  have s2a : S2.size ≤ 204 := by omega
  have s2b : 4 ≤ S2.size := by omega
  have HG2 := Lib.hid (fun W => begins_any S2 true W (by omega) (eighty_begins S2 _ HS2.out))
  clear s2 s2c
  have ix0 : ∀ W, (Instr.index 33 (.agg #[.string S1, .string S2]) (.int .i64 0)).run Try.prog W = .ok (.string S1) W := fun _ => by kernel_rfl
  have ix1 : ∀ W, (Instr.index 33 (.agg #[.string S1, .string S2]) (.int .i64 1)).run Try.prog W = .ok (.string S2) W := fun _ => by kernel_rfl
  go_wp2_with fail
  refine wp_loop_rounds 3 ?_
  rw [rounds_succ]
  go_wp2_with (go_at_call 19; refine (HG1.out _).mono ?_; rintro e_ w_ ⟨rfl, rfl⟩)
  go_loopw [10, 11] (fun tv iv wr => ∃ T : ByteArray, ∃ i : Nat, tv = .string T ∧ iv = .int .i64 (i : Int) ∧ 1 ≤ i ∧ i ≤ S1.size ∧ T.size ≤ 3 * i ∧ Hid (Below w.heap.size w wr) ∧ Hid (HexRel b.data.toList i T.data.toList)) (fun _ iv _ => S1.size - (intOf iv).toNat)
  case atStart => exact ⟨S1.extract 0 1, 1, rfl, rfl, by omega, by omega, by rw [ByteArray.size_extract]; omega, HB3, Lib.hid (by rw [ext_list, HS1.out]; exact hexRel_start _)⟩
  case round =>
    obtain ⟨T, i, rfl, rfl, hi1, hi2, hT, HB, HR⟩ := hrel
    obtain ⟨wo, rfl⟩ : ∃ wo, wo = wr := ⟨_, rfl⟩
    by_cases hlt : i < S1.size
    · have hc255 : (S1[i].toNat : Int) ≤ 255 := by have := S1[i].toNat_lt; omega
      by_cases hg1 : i < n
      · obtain ⟨bb, o, hA, hblt, hcell⟩ := (HGP.out.below HB.out).at_ (by omega)
        subst hA
        have hnc := HGP.out.2.1
        have hc0 := hcell i hg1
        obtain ⟨g, hg⟩ : ∃ g : Nat, (l.getD i 0).toNat = g := ⟨_, rfl⟩
        have hg255 : (g : Int) ≤ 255 := by have := (l.getD i 0).toNat_lt; omega
        rw [hg] at hc0
        clear hcell hg
        by_cases hg2 : i < S1.size
        · have hgi := gap_index g
          have hgs := gapS_size g
          have HR2 := Lib.hid (show HexRel b.data.toList i (T ++ gapS g).data.toList by
            rw [show (T ++ gapS g).data.toList = T.data.toList ++ (gapS g).data.toList by simp]
            exact hexRel_blanks _ i _ _ (by rw [← HS1.out, size_list]; exact hg2) HR.out (gapS_blank g))
          by_cases hup : 97 ≤ (S1[i].toNat : Int) ∧ (S1[i].toNat : Int) ≤ 102
          · obtain ⟨u0, u1⟩ := hup
            have hu9 : (UInt8.ofNat (S1[i].toNat - 32)).toNat = S1[i].toNat - 32 := by rw [UInt8.toNat_ofNat']; omega
            have HU9 := Lib.hid hu9
            clear hu9
            have hcv := fun W => one_str (UInt8.ofNat (S1[i].toNat - 32)) ((S1[i].toNat : Int) - 32) (by first | rfl | (rw [UInt8.toNat_ofNat']; omega)) W
            go_wp2_with fail
            go_roundw
            case rel => exact ⟨(T ++ gapS g) ++ { data := #[(UInt8.ofNat (S1[i].toNat - 32))] }, i + 1, rfl, by go_num, by omega, by omega, by rw [ByteArray.size_append]; show (T ++ gapS g).size + 1 ≤ _; rw [ByteArray.size_append]; omega, Lib.hid (balloc HB.out _), Lib.hid (by rw [show ((T ++ gapS g) ++ { data := #[(UInt8.ofNat (S1[i].toNat - 32))] } : ByteArray).data.toList = (T ++ gapS g).data.toList ++ [(UInt8.ofNat (S1[i].toNat - 32))] by simp]; exact hexRel_step _ (by rw [HBL.out]; omega) i _ _ (UInt8.ofNat (S1[i].toNat - 32)) hi1 (by rw [← HS1.out, size_list]; exact hlt) (by rw [← HS1.out]; exact get_list S1 i hlt) (.inr ⟨by omega, HU9.out⟩) (HR2.out))⟩
            case measure => simp [intOf]; omega
          · rcases (show (S1[i].toNat : Int) < 97 ∨ 102 < (S1[i].toNat : Int) by omega) with hh | hh
            · clear hup
              have hcv := fun W => one_str S1[i] ((S1[i].toNat : Int)) (by first | rfl | (rw [UInt8.toNat_ofNat']; omega)) W
              go_wp2_with fail
              go_roundw
              case rel => exact ⟨(T ++ gapS g) ++ { data := #[S1[i]] }, i + 1, rfl, by go_num, by omega, by omega, by rw [ByteArray.size_append]; show (T ++ gapS g).size + 1 ≤ _; rw [ByteArray.size_append]; omega, Lib.hid (balloc HB.out _), Lib.hid (by rw [show ((T ++ gapS g) ++ { data := #[S1[i]] } : ByteArray).data.toList = (T ++ gapS g).data.toList ++ [S1[i]] by simp]; exact hexRel_step _ (by rw [HBL.out]; omega) i _ _ S1[i] hi1 (by rw [← HS1.out, size_list]; exact hlt) (by rw [← HS1.out]; exact get_list S1 i hlt) (.inl rfl) (HR2.out))⟩
              case measure => simp [intOf]; omega
            · clear hup
              have hcv := fun W => one_str S1[i] ((S1[i].toNat : Int)) (by first | rfl | (rw [UInt8.toNat_ofNat']; omega)) W
              go_wp2_with fail
              go_roundw
              case rel => exact ⟨(T ++ gapS g) ++ { data := #[S1[i]] }, i + 1, rfl, by go_num, by omega, by omega, by rw [ByteArray.size_append]; show (T ++ gapS g).size + 1 ≤ _; rw [ByteArray.size_append]; omega, Lib.hid (balloc HB.out _), Lib.hid (by rw [show ((T ++ gapS g) ++ { data := #[S1[i]] } : ByteArray).data.toList = (T ++ gapS g).data.toList ++ [S1[i]] by simp]; exact hexRel_step _ (by rw [HBL.out]; omega) i _ _ S1[i] hi1 (by rw [← HS1.out, size_list]; exact hlt) (by rw [← HS1.out]; exact get_list S1 i hlt) (.inl rfl) (HR2.out))⟩
              case measure => simp [intOf]; omega
        · exact absurd hlt hg2
      · have HR2 := HR
        by_cases hup : 97 ≤ (S1[i].toNat : Int) ∧ (S1[i].toNat : Int) ≤ 102
        · obtain ⟨u0, u1⟩ := hup
          have hu9 : (UInt8.ofNat (S1[i].toNat - 32)).toNat = S1[i].toNat - 32 := by rw [UInt8.toNat_ofNat']; omega
          have HU9 := Lib.hid hu9
          clear hu9
          have hcv := fun W => one_str (UInt8.ofNat (S1[i].toNat - 32)) ((S1[i].toNat : Int) - 32) (by first | rfl | (rw [UInt8.toNat_ofNat']; omega)) W
          go_wp2_with fail
          go_roundw
          case rel => exact ⟨T ++ { data := #[(UInt8.ofNat (S1[i].toNat - 32))] }, i + 1, rfl, by go_num, by omega, by omega, by rw [ByteArray.size_append]; show T.size + 1 ≤ _; omega, Lib.hid (balloc HB.out _), Lib.hid (by rw [show (T ++ { data := #[(UInt8.ofNat (S1[i].toNat - 32))] } : ByteArray).data.toList = T.data.toList ++ [(UInt8.ofNat (S1[i].toNat - 32))] by simp]; exact hexRel_step _ (by rw [HBL.out]; omega) i _ _ (UInt8.ofNat (S1[i].toNat - 32)) hi1 (by rw [← HS1.out, size_list]; exact hlt) (by rw [← HS1.out]; exact get_list S1 i hlt) (.inr ⟨by omega, HU9.out⟩) (HR2.out))⟩
          case measure => simp [intOf]; omega
        · rcases (show (S1[i].toNat : Int) < 97 ∨ 102 < (S1[i].toNat : Int) by omega) with hh | hh
          · clear hup
            have hcv := fun W => one_str S1[i] ((S1[i].toNat : Int)) (by first | rfl | (rw [UInt8.toNat_ofNat']; omega)) W
            go_wp2_with fail
            go_roundw
            case rel => exact ⟨T ++ { data := #[S1[i]] }, i + 1, rfl, by go_num, by omega, by omega, by rw [ByteArray.size_append]; show T.size + 1 ≤ _; omega, Lib.hid (balloc HB.out _), Lib.hid (by rw [show (T ++ { data := #[S1[i]] } : ByteArray).data.toList = T.data.toList ++ [S1[i]] by simp]; exact hexRel_step _ (by rw [HBL.out]; omega) i _ _ S1[i] hi1 (by rw [← HS1.out, size_list]; exact hlt) (by rw [← HS1.out]; exact get_list S1 i hlt) (.inl rfl) (HR2.out))⟩
            case measure => simp [intOf]; omega
          · clear hup
            have hcv := fun W => one_str S1[i] ((S1[i].toNat : Int)) (by first | rfl | (rw [UInt8.toNat_ofNat']; omega)) W
            go_wp2_with fail
            go_roundw
            case rel => exact ⟨T ++ { data := #[S1[i]] }, i + 1, rfl, by go_num, by omega, by omega, by rw [ByteArray.size_append]; show T.size + 1 ≤ _; omega, Lib.hid (balloc HB.out _), Lib.hid (by rw [show (T ++ { data := #[S1[i]] } : ByteArray).data.toList = T.data.toList ++ [S1[i]] by simp]; exact hexRel_step _ (by rw [HBL.out]; omega) i _ _ S1[i] hi1 (by rw [← HS1.out, size_list]; exact hlt) (by rw [← HS1.out]; exact get_list S1 i hlt) (.inl rfl) (HR2.out))⟩
            case measure => simp [intOf]; omega
    · have HT := Lib.hid (take_is T b (by omega) (hexRel_end _ i _ (by rw [← HS1.out, size_list]; omega) HR.out))
      go_wp2_with fail
      refine (HT.out _).mono ?_
      rintro e_ wz ⟨rfl, hbz⟩
      have HBZ := Lib.hid (btrans HB.out hbz)
      clear hbz HT HR
      go_wp2_with fail
      rw [rounds_succ]
      go_wp2_with (go_at_call 19; refine (HG2.out _).mono ?_; rintro e_ w_ ⟨rfl, rfl⟩)
      go_loopw [10, 11] (fun tv iv wr => ∃ T : ByteArray, ∃ i : Nat, tv = .string T ∧ iv = .int .i64 (i : Int) ∧ 2 ≤ i ∧ i ≤ S2.size ∧ T.size ≤ 3 * i ∧ Hid (Below w.heap.size w wr) ∧ Hid (EiRel b.data.toList i T.data.toList)) (fun _ iv _ => S2.size - (intOf iv).toNat)
      case atStart => exact ⟨S2.extract 0 2, 2, rfl, rfl, by omega, by omega, by rw [ByteArray.size_extract]; omega, HBZ, Lib.hid (by rw [ext_list, HS2.out]; exact eiRel_start _)⟩
      case round =>
        obtain ⟨T, i, rfl, rfl, hi1, hi2, hT, HB, HR⟩ := hrel
        obtain ⟨wo, rfl⟩ : ∃ wo, wo = wr := ⟨_, rfl⟩
        by_cases hlt : i < S2.size
        · have hc255 : (S2[i].toNat : Int) ≤ 255 := by have := S2[i].toNat_lt; omega
          by_cases hg1 : i < n
          · obtain ⟨bb, o, hA, hblt, hcell⟩ := (HGP.out.below HB.out).at_ (by omega)
            subst hA
            have hnc := HGP.out.2.1
            have hc0 := hcell i hg1
            obtain ⟨g, hg⟩ : ∃ g : Nat, (l.getD i 0).toNat = g := ⟨_, rfl⟩
            have hg255 : (g : Int) ≤ 255 := by have := (l.getD i 0).toNat_lt; omega
            rw [hg] at hc0
            clear hcell hg
            by_cases hg2 : i + 1 < S2.size
            · have hgi := gap_index g
              have hgs := gapS_size g
              have HR2 := Lib.hid (show EiRel b.data.toList i (T ++ gapS g).data.toList by
                rw [show (T ++ gapS g).data.toList = T.data.toList ++ (gapS g).data.toList by simp]
                exact eiRel_blanks _ i _ _ (by rw [← HS2.out, size_list]; exact hg2) HR.out (gapS_blank g))
              have hcv := fun W => one_str S2[i] ((S2[i].toNat : Int)) (by first | rfl | (rw [UInt8.toNat_ofNat']; omega)) W
              go_wp2_with fail
              go_roundw
              case rel => exact ⟨(T ++ gapS g) ++ { data := #[S2[i]] }, i + 1, rfl, by go_num, by omega, by omega, by rw [ByteArray.size_append]; show (T ++ gapS g).size + 1 ≤ _; rw [ByteArray.size_append]; omega, Lib.hid (balloc HB.out _), Lib.hid (by rw [show ((T ++ gapS g) ++ { data := #[S2[i]] } : ByteArray).data.toList = (T ++ gapS g).data.toList ++ [S2[i]] by simp]; exact eiRel_step _ (by rw [HBL.out]; omega) i _ _ hi1 (by rw [← HS2.out, size_list]; exact hlt) (by rw [← HS2.out]; exact get_list S2 i hlt) (HR2.out))⟩
              case measure => simp [intOf]; omega
            · have HR2 := HR
              have hcv := fun W => one_str S2[i] ((S2[i].toNat : Int)) (by first | rfl | (rw [UInt8.toNat_ofNat']; omega)) W
              go_wp2_with fail
              go_roundw
              case rel => exact ⟨T ++ { data := #[S2[i]] }, i + 1, rfl, by go_num, by omega, by omega, by rw [ByteArray.size_append]; show T.size + 1 ≤ _; omega, Lib.hid (balloc HB.out _), Lib.hid (by rw [show (T ++ { data := #[S2[i]] } : ByteArray).data.toList = T.data.toList ++ [S2[i]] by simp]; exact eiRel_step _ (by rw [HBL.out]; omega) i _ _ hi1 (by rw [← HS2.out, size_list]; exact hlt) (by rw [← HS2.out]; exact get_list S2 i hlt) (HR2.out))⟩
              case measure => simp [intOf]; omega
          · have HR2 := HR
            have hcv := fun W => one_str S2[i] ((S2[i].toNat : Int)) (by first | rfl | (rw [UInt8.toNat_ofNat']; omega)) W
            go_wp2_with fail
            go_roundw
            case rel => exact ⟨T ++ { data := #[S2[i]] }, i + 1, rfl, by go_num, by omega, by omega, by rw [ByteArray.size_append]; show T.size + 1 ≤ _; omega, Lib.hid (balloc HB.out _), Lib.hid (by rw [show (T ++ { data := #[S2[i]] } : ByteArray).data.toList = T.data.toList ++ [S2[i]] by simp]; exact eiRel_step _ (by rw [HBL.out]; omega) i _ _ hi1 (by rw [← HS2.out, size_list]; exact hlt) (by rw [← HS2.out]; exact get_list S2 i hlt) (HR2.out))⟩
            case measure => simp [intOf]; omega
        · have HT := Lib.hid (take_is T b (by omega) (eiRel_end _ i _ (by rw [← HS2.out, size_list]; omega) HR.out))
          go_wp2_with fail
          refine (HT.out _).mono ?_
          rintro e_ wz ⟨rfl, hbz⟩
          have HBZ := Lib.hid (btrans HB.out hbz)
          clear hbz HT HR
          go_wp2_with fail
          rw [rounds_succ]
          go_wp2_with fail
          go_ret
          exact ⟨by first | rfl | simp, HBZ.out⟩

theorem loose_law (b : ByteArray) (A : Option Addr) (n c : Nat) (l : List UInt8) (great : Bool) (w : World) (hb : b.size ≤ maxLen) (hl : Bytes w A n c l) (hn : n ≤ 9223372036854775807) :
    Calls Try.prog 6 #[.string b, .slice A n c, .bool great] w fun e w' => e = .returned (.bool true) ∧ Below w.heap.size w w' := by
  cases great
  · exact loose_false b A n c l w hb hl hn
  · exact loose_true b A n c l w hb hl hn
end Go.Proofs.Ytdonjnngohmknaa.qt
