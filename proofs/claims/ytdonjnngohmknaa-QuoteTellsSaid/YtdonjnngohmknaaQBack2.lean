/-
  Layer 7, plain: the forms < > and <~ ~>, read again; cut off; too long.
-/
import Derived.Test.YtdonjnngohmknaaQBack
namespace Go.Proofs.Ytdonjnngohmknaa.qt
set_option linter.unusedVariables false
set_option linter.unusedSimpArgs false
open ch

/-! ### < > -/
theorem hexd_facts (k : Nat) (h : k < 16) : kind ((hexd k).toNat : Int) ≠ 1 ∧ hexd k ≠ 62 ∧ value ((hexd k).toNat : Int) = (k : Int) := by
  rcases (show k = 0 ∨ k = 1 ∨ k = 2 ∨ k = 3 ∨ k = 4 ∨ k = 5 ∨ k = 6 ∨ k = 7 ∨ k = 8 ∨ k = 9 ∨ k = 10 ∨ k = 11 ∨ k = 12 ∨ k = 13 ∨ k = 14 ∨ k = 15 by omega) with rfl | rfl | rfl | rfl | rfl | rfl | rfl | rfl | rfl | rfl | rfl | rfl | rfl | rfl | rfl | rfl <;> decide
theorem hex_one (x : UInt8) (k : Nat) (hk : k < 16) (h1 : kind (x.toNat : Int) ≠ 1) (h2 : x ≠ 62) (h3 : value (x.toNat : Int) = (k : Int)) (r b : List UInt8) (n : Nat) : hexR (x :: r) (-1) b n = hexR r (k : Int) b (n + 1) := by
  rw [hexR, if_neg h1, if_neg h2, h3, if_neg (by omega), if_pos (by omega)]
theorem hex_two (x : UInt8) (j k : Nat) (hk : k < 16) (h1 : kind (x.toNat : Int) ≠ 1) (h2 : x ≠ 62) (h3 : value (x.toNat : Int) = (k : Int)) (r b : List UInt8) (n : Nat) : hexR (x :: r) (j : Int) b n = if 4000 ≤ b.length then bad 5 else hexR r (-1) (b ++ [UInt8.ofNat (16 * j + k)]) (n + 1) := by
  rw [hexR, if_neg h1, if_neg h2, h3, if_neg (by omega), if_neg (by omega), show (16 * (j : Int) + (k : Int)).toNat = 16 * j + k by omega]
theorem hex_tok (c : UInt8) (r b : List UInt8) (n : Nat) : hexR (hone c ++ r) (-1) b n = if 4000 ≤ b.length then bad 5 else hexR r (-1) (b ++ [c]) (n + 2) := by
  have hc := n8 c
  obtain ⟨a1, a2, a3⟩ := hexd_facts (c.toNat / 16) (by omega)
  obtain ⟨b1, b2, b3⟩ := hexd_facts (c.toNat % 16) (by omega)
  show hexR (hexd (c.toNat / 16) :: hexd (c.toNat % 16) :: r) (-1) b n = _
  rw [hex_one _ _ (by omega) a1 a2 a3, hex_two _ _ _ (by omega) b1 b2 b3, show 16 * (c.toNat / 16) + c.toNat % 16 = c.toNat by omega, UInt8.ofNat_toNat]
theorem hone_two (c : UInt8) : (hone c).length = 2 := rfl
theorem fmh_len (l : List UInt8) : (l.flatMap hone).length = 2 * l.length := by
  induction l with
  | nil => rfl
  | cons c l ih => rw [List.flatMap_cons, List.length_append, hone_two, ih, List.length_cons]; omega
theorem hex_all (l : List UInt8) : ∀ (r b : List UInt8) (n : Nat), b.length + l.length ≤ 4000 → hexR (l.flatMap hone ++ r) (-1) b n = hexR r (-1) (b ++ l) (n + 2 * l.length) := by
  induction l with
  | nil => intro r b n _; simp
  | cons c l ih =>
    intro r b n hb
    rw [List.length_cons] at hb
    rw [List.flatMap_cons, List.append_assoc, hex_tok, if_neg (by omega), ih r (b ++ [c]) _ (by simp; omega)]
    simp only [List.append_assoc, List.singleton_append, List.length_cons]
    congr 1
    omega
theorem hexL_len (l : List UInt8) : (hexL l).length = 2 * l.length + 2 := by
  unfold hexL
  rw [List.length_cons, List.length_append, fmh_len]; rfl
theorem hex_close (r b : List UInt8) (n : Nat) : hexR (62 :: r) (-1) b n = (b, ((n + 1 : Nat) : Int), 0) := by rw [hexR, if_neg (by decide), if_pos rfl, if_neg (by decide)]
theorem hex_ne (x : UInt8) (l : List UInt8) (hx : x ≠ 126) : takeL (60 :: x :: l) = hexR (x :: l) (-1) [] 1 := by
  rw [takeL, if_neg (by simp), if_neg (by simp [hx]), if_pos (by rfl)]
  rfl
theorem hexd_ne (k : Nat) (h : k < 16) : hexd k ≠ 126 := by
  rcases (show k = 0 ∨ k = 1 ∨ k = 2 ∨ k = 3 ∨ k = 4 ∨ k = 5 ∨ k = 6 ∨ k = 7 ∨ k = 8 ∨ k = 9 ∨ k = 10 ∨ k = 11 ∨ k = 12 ∨ k = 13 ∨ k = 14 ∨ k = 15 by omega) with rfl | rfl | rfl | rfl | rfl | rfl | rfl | rfl | rfl | rfl | rfl | rfl | rfl | rfl | rfl | rfl <;> decide
theorem take_hex (l r : List UInt8) (h : ∀ x t, l.flatMap hone ++ r = x :: t → x ≠ 126) : takeL (60 :: (l.flatMap hone ++ r)) = hexR (l.flatMap hone ++ r) (-1) [] 1 := by
  cases e : l.flatMap hone ++ r with
  | nil => rw [takeL, if_neg (by simp), if_neg (by simp), if_pos (by rfl)]; rfl
  | cons x t => exact hex_ne x t (h x t e)
theorem hone_head (l r : List UInt8) (hr : ∀ x t, r = x :: t → x ≠ 126) : ∀ x t, l.flatMap hone ++ r = x :: t → x ≠ 126 := by
  intro x t e
  cases l with
  | nil => exact hr x t e
  | cons c l =>
    have hc := n8 c
    have e2 : hexd (c.toNat / 16) = x := by
      rw [List.flatMap_cons, hone] at e
      simp only [List.cons_append, List.cons.injEq] at e
      exact e.1
    rw [← e2]
    exact hexd_ne _ (by omega)
theorem back_hex (l more : List UInt8) (h : l.length ≤ 4000) : takeL (hexL l ++ more) = (l, ((hexL l).length : Int), 0) := by
  have e : hexL l ++ more = 60 :: (l.flatMap hone ++ (62 :: more)) := by simp [hexL]
  rw [e, take_hex l _ (hone_head l _ (fun x t e => by cases e; decide)), hex_all l _ _ _ (by simpa using h), hex_close, hexL_len, List.nil_append]
  congr 2
  omega
theorem many_hex_r (l : List UInt8) : ∀ (r b : List UInt8) (n : Nat), b.length ≤ 4000 → 4000 < b.length + l.length → hexR (l.flatMap hone ++ r) (-1) b n = bad 5 := by
  induction l with
  | nil => intro r b n h1 h2; simp at h2; omega
  | cons c l ih =>
    intro r b n h1 h2
    rw [List.length_cons] at h2
    rw [List.flatMap_cons, List.append_assoc, hex_tok]
    by_cases h : 4000 ≤ b.length
    · rw [if_pos h]
    · rw [if_neg h]
      exact ih r _ _ (by simp; omega) (by simp; omega)
theorem many_hex (l : List UInt8) (h : 4000 < l.length) : takeL (hexL l) = bad 5 := by
  have e : hexL l = 60 :: (l.flatMap hone ++ [62]) := rfl
  rw [e, take_hex l _ (hone_head l _ (fun x t e => by cases e; decide))]
  exact many_hex_r l _ _ _ (by simp) (by simpa using h)
theorem hex_cut (l : List UInt8) : ∀ (k : Nat) (b : List UInt8) (n : Nat), b.length + l.length ≤ 4000 → hexR ((l.flatMap hone).take k) (-1) b n = bad 4 := by
  induction l with
  | nil => intro k b n _; simp; rfl
  | cons c l ih =>
    intro k b n hb
    rw [List.length_cons] at hb
    rw [List.flatMap_cons, List.take_append, hone_two]
    have hc := n8 c
    by_cases h : k < 2
    · rw [show k - 2 = 0 by omega, List.take_zero, List.append_nil]
      rcases (show k = 0 ∨ k = 1 by omega) with rfl | rfl
      · rfl
      · obtain ⟨a1, a2, a3⟩ := hexd_facts (c.toNat / 16) (by omega)
        show hexR [hexd (c.toNat / 16)] (-1) b n = _
        rw [hex_one _ _ (by omega) a1 a2 a3]
        rfl
    · rw [List.take_of_length_le (by rw [hone_two]; omega), hex_tok, if_neg (by omega)]
      exact ih _ _ _ (by simp; omega)
theorem cut_hex (l : List UInt8) (k : Nat) (h : l.length ≤ 4000) (h0 : 1 ≤ k) (hk : k < (hexL l).length) : takeL ((hexL l).take k) = bad 4 := by
  obtain ⟨k, rfl⟩ : ∃ j, k = j + 1 := ⟨k - 1, by omega⟩
  rw [hexL_len] at hk
  have e : (hexL l).take (k + 1) = 60 :: (l.flatMap hone).take k := by
    unfold hexL
    rw [List.take_succ_cons, List.take_append_of_le_length (by rw [fmh_len]; omega)]
  rw [e]
  have hne : ∀ x t, (l.flatMap hone).take k = x :: t → x ≠ 126 := by
    intro x t e2
    have e3 : l.flatMap hone ++ [] = x :: (l.flatMap hone).tail := by
      rw [List.append_nil]
      cases hl : l.flatMap hone with
      | nil => rw [hl] at e2; simp at e2
      | cons y ys =>
        rw [hl] at e2
        cases k with
        | zero => simp at e2
        | succ k => simp at e2; rw [e2.1]; rfl
    exact hone_head l [] (fun x t e => by cases e) x _ e3
  have hc := hex_cut l k [] 1 (by simpa using h)
  cases e4 : (l.flatMap hone).take k with
  | nil => rw [takeL, if_neg (by simp), if_neg (by simp), if_pos (by rfl)]; rfl
  | cons x t => rw [hex_ne x t (hne x t e4), ← e4]; exact hc

/-! ### <~ ~> -/
def digB (d : UInt8) : Prop := 33 ≤ d.toNat ∧ d.toNat ≤ 117
theorem dig_kind (d : UInt8) (h : digB d) : kind (d.toNat : Int) ≠ 1 := by
  unfold kind
  have := h.1
  rw [if_neg (by omega)]
  split <;> decide
theorem dig_one (d : UInt8) (h : digB d) (r g b : List UInt8) (n : Nat) : eightyR (d :: r) g b n = (if g.length < 4 then eightyR r (g ++ [d]) b (n + 1)
      else if 4294967296 ≤ number (g ++ [d]) then bad 3
      else if 4000 < b.length + 4 then bad 5
      else eightyR r [] (b ++ bytes4 (number (g ++ [d]))) (n + 1)) := by
  have e1 : d ≠ 126 := fun e => by have := h.2; rw [e] at this; exact absurd this (by decide)
  have e2 : d ≠ 122 := fun e => by have := h.2; rw [e] at this; exact absurd this (by decide)
  rw [eightyR, if_neg (dig_kind d h), if_neg e1, if_neg (fun h => e2 h.1), if_pos ⟨(u8lee 33 d).2 h.1, (u8lee d 117).2 h.2⟩]
theorem dig_run (ds : List UInt8) : ∀ (r g b : List UInt8) (n : Nat), (∀ d ∈ ds, digB d) → g.length + ds.length ≤ 4 → eightyR (ds ++ r) g b n = eightyR r (g ++ ds) b (n + ds.length) := by
  induction ds with
  | nil => intro r g b n _ _; simp
  | cons d ds ih =>
    intro r g b n hd hl
    rw [List.length_cons] at hl
    rw [List.cons_append, dig_one d (hd d (by simp)), if_pos (by omega), ih r (g ++ [d]) b _ (fun x hx => hd x (by simp [hx])) (by simp; omega)]
    simp only [List.append_assoc, List.singleton_append, List.length_cons]
    congr 1
    omega
theorem five_dig (v : Nat) (h : v < 4294967296) : ∀ d ∈ five v, digB d := by
  intro d hd
  simp only [five, List.mem_cons, List.not_mem_nil, or_false] at hd
  rcases hd with rfl | rfl | rfl | rfl | rfl <;> (unfold digB; rw [ofN _ (by omega)]; omega)
theorem five_number (v : Nat) (h : v < 4294967296) : number (five v) = v := by
  simp only [five, number, List.foldl_cons, List.foldl_nil]
  rw [ofN _ (by omega), ofN _ (by omega), ofN _ (by omega), ofN _ (by omega), ofN _ (by omega)]
  have h2 : v / 7225 = v / 85 / 85 := by rw [Nat.div_div_eq_div_mul]
  have h3 : v / 614125 = v / 85 / 85 / 85 := by rw [Nat.div_div_eq_div_mul, Nat.div_div_eq_div_mul]
  have h4 : v / 52200625 = v / 85 / 85 / 85 / 85 := by rw [Nat.div_div_eq_div_mul, Nat.div_div_eq_div_mul, Nat.div_div_eq_div_mul]
  rw [h4, h3, h2]
  omega
theorem u8ext (a b : UInt8) (h : a.toNat = b.toNat) : a = b := UInt8.toNat_inj.1 h
theorem ofNmod (n : Nat) : (UInt8.ofNat n).toNat = n % 256 := by rw [UInt8.toNat_ofNat']
theorem bytes_val (w x y z : UInt8) : bytes4 (val4 [w, x, y, z]) = [w, x, y, z] := by
  have := n8 w; have := n8 x; have := n8 y; have := n8 z
  have e : val4 [w, x, y, z] = 16777216 * w.toNat + 65536 * x.toNat + 256 * y.toNat + z.toNat := rfl
  rw [e]
  unfold bytes4
  congr 1
  · apply u8ext; rw [ofNmod]; omega
  congr 1
  · apply u8ext; rw [ofNmod]; omega
  congr 1
  · apply u8ext; rw [ofNmod]; omega
  congr 1
  · apply u8ext; rw [ofNmod]; omega
theorem val4_lt (l : List UInt8) : val4 l < 4294967296 := by
  have := n8 (l.getD 0 0); have := n8 (l.getD 1 0); have := n8 (l.getD 2 0); have := n8 (l.getD 3 0)
  unfold val4
  omega
/-- a whole group -/
theorem grp_four (w x y z : UInt8) (r b : List UInt8) (n : Nat) : eightyR (eone [w, x, y, z] ++ r) [] b n = if 4000 < b.length + 4 then bad 5 else eightyR r [] (b ++ [w, x, y, z]) (n + (eone [w, x, y, z]).length) := by
  have hlt := val4_lt [w, x, y, z]
  by_cases h0 : val4 [w, x, y, z] = 0
  · have e : [w, x, y, z] = [0, 0, 0, 0] := by
      have e1 := bytes_val w x y z
      rw [h0] at e1
      exact e1.symm.trans (by decide)
    have e2 : eone [w, x, y, z] = [122] := by rw [eone, if_pos ⟨h0, rfl⟩]
    rw [e2, e]
    show eightyR (122 :: r) [] b n = _
    rw [eightyR, if_neg (by decide), if_neg (by decide), if_pos ⟨rfl, rfl⟩]
    rfl
  · have e2 : eone [w, x, y, z] = five (val4 [w, x, y, z]) := by rw [eone, if_neg (fun h => h0 h.1)]; rfl
    have hb := bytes_val w x y z
    rw [e2]
    generalize val4 [w, x, y, z] = v at *
    have hd := five_dig v hlt
    have hn := five_number v hlt
    obtain ⟨a, c, d, e, f, h5⟩ : ∃ a c d e f, five v = [a, c, d, e, f] := ⟨_, _, _, _, _, rfl⟩
    rw [h5] at hd hn ⊢
    have h1 := dig_run [a, c, d, e] (f :: r) [] b n (fun q hq => hd q (by simp at hq ⊢; rcases hq with h | h | h | h <;> simp [h])) (by simp)
    show eightyR ([a, c, d, e] ++ (f :: r)) [] b n = _
    rw [h1, dig_one f (hd f (by simp)), if_neg (by simp)]
    show (if 4294967296 ≤ number [a, c, d, e, f] then bad 3 else if 4000 < b.length + 4 then bad 5 else eightyR r [] (b ++ bytes4 (number [a, c, d, e, f])) (n + 4 + 1)) = _
    rw [hn, if_neg (by omega), hb]
    rfl
theorem e_last (r g b : List UInt8) (n : Nat) : eightyR (126 :: 62 :: r) g b n = lastR g b (n + 2) := by rw [eightyR, if_neg (by decide), if_pos rfl, if_neg (by simp), if_neg (by simp)]
theorem e_cut (g b : List UInt8) (n : Nat) : eightyR [126] g b n = bad 4 := by rw [eightyR, if_neg (by decide), if_pos rfl, if_pos rfl]
theorem five_at (v : Nat) (h : v < 4294967296) : ∃ a c d e f : UInt8, five v = [a, c, d, e, f] ∧ a.toNat = 33 + v / 52200625 ∧ c.toNat = 33 + v / 614125 % 85 ∧ d.toNat = 33 + v / 7225 % 85 ∧ e.toNat = 33 + v / 85 % 85 := by
  refine ⟨_, _, _, _, _, rfl, ?_, ?_, ?_, ?_⟩ <;> (rw [ofN _ (by omega)])
  omega
/-- a part of a group ahead of the end: what last makes of it -/
theorem last_one (w : UInt8) : number (fill ((five (val4 [w])).take 2)) < 4294967296 ∧ (bytes4 (number (fill ((five (val4 [w])).take 2)))).take 1 = [w] := by
  have hw := n8 w
  have e : val4 [w] = 16777216 * w.toNat := by simp [val4]
  have hv := val4_lt [w]
  rw [e] at hv ⊢
  obtain ⟨a, c, d, f, g, h5, ha, hc, _⟩ := five_at (16777216 * w.toNat) hv
  rw [h5]
  have h4 : 16777216 * w.toNat / 52200625 = 16777216 * w.toNat / 614125 / 85 := by rw [Nat.div_div_eq_div_mul]
  have en : number (fill [a, c]) = 614125 * (16777216 * w.toNat / 614125) + 614124 := by
    show number [a, c, 117, 117, 117] = _
    simp only [number, List.foldl_cons, List.foldl_nil]
    rw [ha, hc, h4, show (117 : UInt8).toNat = 117 from rfl]
    omega
  show number (fill [a, c]) < _ ∧ (bytes4 (number (fill [a, c]))).take 1 = [w]
  rw [en]
  have b1 : 16777216 * w.toNat ≤ 614125 * (16777216 * w.toNat / 614125) + 614124 := by omega
  have b2 : 614125 * (16777216 * w.toNat / 614125) + 614124 < 16777216 * w.toNat + 614125 := by omega
  clear en ha hc h4 h5 hv
  generalize 614125 * (16777216 * w.toNat / 614125) + 614124 = V at *
  refine ⟨by omega, ?_⟩
  show [UInt8.ofNat (V / 16777216)] = [w]
  congr 1
  apply u8ext
  rw [ofNmod]
  omega
theorem last_two (w x : UInt8) : number (fill ((five (val4 [w, x])).take 3)) < 4294967296 ∧ (bytes4 (number (fill ((five (val4 [w, x])).take 3)))).take 2 = [w, x] := by
  have hw := n8 w
  have hx := n8 x
  have e : val4 [w, x] = 16777216 * w.toNat + 65536 * x.toNat := by simp [val4]
  have hv := val4_lt [w, x]
  rw [e] at hv ⊢
  obtain ⟨v, hv2⟩ : ∃ v, 16777216 * w.toNat + 65536 * x.toNat = v := ⟨_, rfl⟩
  rw [hv2] at hv ⊢
  obtain ⟨a, c, d, f, g, h5, ha, hc, hd, _⟩ := five_at v hv
  rw [h5]
  have h3 : v / 614125 = v / 7225 / 85 := by rw [Nat.div_div_eq_div_mul]
  have h4 : v / 52200625 = v / 7225 / 85 / 85 := by rw [Nat.div_div_eq_div_mul, Nat.div_div_eq_div_mul]
  have en : number (fill [a, c, d]) = 7225 * (v / 7225) + 7224 := by
    show number [a, c, d, 117, 117] = _
    simp only [number, List.foldl_cons, List.foldl_nil]
    rw [ha, hc, hd, h4, h3, show (117 : UInt8).toNat = 117 from rfl]
    omega
  show number (fill [a, c, d]) < _ ∧ (bytes4 (number (fill [a, c, d]))).take 2 = [w, x]
  rw [en]
  have b1 : v ≤ 7225 * (v / 7225) + 7224 := by omega
  have b2 : 7225 * (v / 7225) + 7224 < v + 7225 := by omega
  clear en ha hc hd h3 h4 h5 hv
  generalize 7225 * (v / 7225) + 7224 = V at *
  refine ⟨by omega, ?_⟩
  show [UInt8.ofNat (V / 16777216), UInt8.ofNat (V / 65536)] = [w, x]
  congr 1
  · apply u8ext; rw [ofNmod]; omega
  congr 1
  · apply u8ext; rw [ofNmod]; omega
theorem last_three (w x y : UInt8) : number (fill ((five (val4 [w, x, y])).take 4)) < 4294967296 ∧ (bytes4 (number (fill ((five (val4 [w, x, y])).take 4)))).take 3 = [w, x, y] := by
  have hw := n8 w
  have hx := n8 x
  have hy := n8 y
  have e : val4 [w, x, y] = 16777216 * w.toNat + 65536 * x.toNat + 256 * y.toNat := by simp [val4]
  have hv := val4_lt [w, x, y]
  rw [e] at hv ⊢
  obtain ⟨v, hv2⟩ : ∃ v, 16777216 * w.toNat + 65536 * x.toNat + 256 * y.toNat = v := ⟨_, rfl⟩
  rw [hv2] at hv ⊢
  obtain ⟨a, c, d, f, g, h5, ha, hc, hd, hf⟩ := five_at v hv
  rw [h5]
  have h2 : v / 7225 = v / 85 / 85 := by rw [Nat.div_div_eq_div_mul]
  have h3 : v / 614125 = v / 85 / 85 / 85 := by rw [Nat.div_div_eq_div_mul, Nat.div_div_eq_div_mul]
  have h4 : v / 52200625 = v / 85 / 85 / 85 / 85 := by rw [Nat.div_div_eq_div_mul, Nat.div_div_eq_div_mul, Nat.div_div_eq_div_mul]
  have en : number (fill [a, c, d, f]) = 85 * (v / 85) + 84 := by
    show number [a, c, d, f, 117] = _
    simp only [number, List.foldl_cons, List.foldl_nil]
    rw [ha, hc, hd, hf, h4, h3, h2, show (117 : UInt8).toNat = 117 from rfl]
    omega
  show number (fill [a, c, d, f]) < _ ∧ (bytes4 (number (fill [a, c, d, f]))).take 3 = [w, x, y]
  rw [en]
  have b1 : v ≤ 85 * (v / 85) + 84 := by omega
  have b2 : 85 * (v / 85) + 84 < v + 85 := by omega
  clear en ha hc hd hf h2 h3 h4 h5 hv
  generalize 85 * (v / 85) + 84 = V at *
  refine ⟨by omega, ?_⟩
  show [UInt8.ofNat (V / 16777216), UInt8.ofNat (V / 65536), UInt8.ofNat (V / 256)] = [w, x, y]
  congr 1
  · apply u8ext; rw [ofNmod]; omega
  congr 1
  · apply u8ext; rw [ofNmod]; omega
  congr 1
  · apply u8ext; rw [ofNmod]; omega
theorem last_part (g : List UInt8) (h1 : 1 ≤ g.length) (h3 : g.length ≤ 3) : number (fill ((five (val4 g)).take (g.length + 1))) < 4294967296 ∧ (bytes4 (number (fill ((five (val4 g)).take (g.length + 1))))).take g.length = g := by
  match g, h1, h3 with
  | [w], _, _ => exact last_one w
  | [w, x], _, _ => exact last_two w x
  | [w, x, y], _, _ => exact last_three w x y
theorem eone_part (g : List UInt8) (h3 : g.length ≤ 3) : eone g = (five (val4 g)).take (g.length + 1) := by rw [eone, if_neg (by omega)]
theorem eone_dig (g : List UInt8) (h3 : g.length ≤ 3) : ∀ d ∈ eone g, digB d := by
  rw [eone_part g h3]
  exact fun d hd => five_dig _ (val4_lt g) d (List.mem_of_mem_take hd)
theorem eone_part_len (g : List UInt8) (h3 : g.length ≤ 3) : (eone g).length = g.length + 1 := by
  rw [eone_part g h3, List.length_take]
  simp [five]; omega
theorem grp_part (g : List UInt8) (h1 : 1 ≤ g.length) (h3 : g.length ≤ 3) (r b : List UInt8) (n : Nat) : eightyR (eone g ++ 126 :: 62 :: r) [] b n = if 4000 < b.length + g.length then bad 5 else (b ++ g, ((n + (eone g).length + 2 : Nat) : Int), 0) := by
  obtain ⟨l1, l2⟩ := last_part g h1 h3
  have hl := eone_part_len g h3
  rw [dig_run (eone g) _ [] b n (eone_dig g h3) (by simp; omega), e_last, List.nil_append, lastR, if_neg (by intro e; rw [e] at hl; simp at hl), if_neg (by rw [hl, eone_part g h3]; omega), hl, eone_part g h3, Nat.add_sub_cancel, l2]
theorem groups_nil (f : Nat) : groups f [] = [] := by cases f <;> rfl
theorem groups_part (f : Nat) (g : List UInt8) (h1 : 1 ≤ g.length) (h3 : g.length ≤ 3) : groups (f + 1) g = eone g := by
  cases g with
  | nil => simp at h1
  | cons c l =>
    show eone ((c :: l).take 4) ++ groups f ((c :: l).drop 4) = _
    rw [List.take_of_length_le (by omega), List.drop_eq_nil_of_le (by omega), groups_nil, List.append_nil]
theorem groups_four (f : Nat) (w x y z : UInt8) (l : List UInt8) : groups (f + 1) (w :: x :: y :: z :: l) = eone [w, x, y, z] ++ groups f l := rfl
theorem list_cases (l : List UInt8) : l = [] ∨ (1 ≤ l.length ∧ l.length ≤ 3) ∨ ∃ w x y z r, l = w :: x :: y :: z :: r := by
  match l with
  | [] => exact .inl rfl
  | [_] => exact .inr (.inl (by simp))
  | [_, _] => exact .inr (.inl (by simp))
  | [_, _, _] => exact .inr (.inl (by simp))
  | w :: x :: y :: z :: r => exact .inr (.inr ⟨w, x, y, z, r, rfl⟩)
theorem eighty_all (m : Nat) : ∀ (l : List UInt8), l.length ≤ m → ∀ (f : Nat) (b r : List UInt8) (n : Nat), l.length ≤ f → b.length ≤ 4000 →
    eightyR (groups f l ++ 126 :: 62 :: r) [] b n = if 4000 < b.length + l.length then bad 5 else (b ++ l, ((n + (groups f l).length + 2 : Nat) : Int), 0) := by
  induction m with
  | zero =>
    intro l hl f b r n hf hb
    have e : l = [] := List.eq_nil_of_length_eq_zero (by omega)
    subst e
    rw [groups_nil, List.nil_append, e_last, lastR, if_pos rfl, if_neg (by simp; omega), List.append_nil]; rfl
  | succ m ih =>
    intro l hl f b r n hf hb
    rcases list_cases l with rfl | ⟨h1, h3⟩ | ⟨w, x, y, z, l, rfl⟩
    · rw [groups_nil, List.nil_append, e_last, lastR, if_pos rfl, if_neg (by simp; omega), List.append_nil]; rfl
    · obtain ⟨f, rfl⟩ : ∃ g, f = g + 1 := ⟨f - 1, by omega⟩
      rw [groups_part f l h1 h3, grp_part l h1 h3]
    · obtain ⟨f, rfl⟩ : ∃ g, f = g + 1 := ⟨f - 1, by simp at hf; omega⟩
      simp only [List.length_cons] at hl hf
      rw [groups_four, List.append_assoc, grp_four]
      by_cases h : 4000 < b.length + 4
      · rw [if_pos h, if_pos (by simp only [List.length_cons]; omega)]
      · rw [if_neg h, ih l (by omega) f _ _ _ (by omega) (by simp; omega)]
        have e1 : (b ++ [w, x, y, z]).length + l.length = b.length + (w :: x :: y :: z :: l).length := by simp; omega
        rw [e1]
        by_cases h2 : 4000 < b.length + (w :: x :: y :: z :: l).length
        · rw [if_pos h2, if_pos h2]
        · rw [if_neg h2, if_neg h2]
          simp only [List.append_assoc, List.cons_append, List.nil_append, List.length_append]
          congr 3
          omega
theorem take_eighty (r : List UInt8) : takeL (60 :: 126 :: r) = eightyR r [] [] 2 := by rw [takeL, if_neg (by simp), if_pos ⟨by rfl, by rfl⟩]; rfl
theorem eightyL_len (l : List UInt8) : (eightyL l).length = (groups l.length l).length + 4 := by
  unfold eightyL
  rw [List.length_cons, List.length_cons, List.length_append]; rfl
theorem back_eighty (l more : List UInt8) (h : l.length ≤ 4000) : takeL (eightyL l ++ more) = (l, ((eightyL l).length : Int), 0) := by
  have e : eightyL l ++ more = 60 :: 126 :: (groups l.length l ++ 126 :: 62 :: more) := by simp [eightyL]
  rw [e, take_eighty, eighty_all l.length l (Nat.le_refl _) _ _ _ _ (Nat.le_refl _) (by simp), if_neg (by simp; omega), eightyL_len, List.nil_append]
  congr 2
  omega
theorem many_eighty (l : List UInt8) (h : 4000 < l.length) : takeL (eightyL l) = bad 5 := by
  have e : eightyL l = 60 :: 126 :: (groups l.length l ++ 126 :: 62 :: []) := by simp [eightyL]
  rw [e, take_eighty, eighty_all l.length l (Nat.le_refl _) _ _ _ _ (Nat.le_refl _) (by simp), if_pos (by simp; omega)]
theorem dig_end (ds g b : List UInt8) (n : Nat) (hd : ∀ d ∈ ds, digB d) (h : g.length + ds.length ≤ 4) : eightyR ds g b n = bad 4 := by
  have := dig_run ds [] g b n hd h
  rw [List.append_nil] at this
  rw [this]; rfl
theorem eighty_cut (m : Nat) : ∀ (l : List UInt8), l.length ≤ m → ∀ (f k : Nat) (b : List UInt8) (n : Nat), l.length ≤ f → b.length + l.length ≤ 4000 → k < (groups f l).length + 2 →
    eightyR ((groups f l ++ [126, 62]).take k) [] b n = bad 4 := by
  have nilcase : ∀ (k : Nat) (b : List UInt8) (n : Nat), k < 2 → eightyR (([126, 62] : List UInt8).take k) [] b n = bad 4 := by
    intro k b n hk
    rcases (show k = 0 ∨ k = 1 by omega) with rfl | rfl
    · rfl
    · exact e_cut [] b n
  induction m with
  | zero =>
    intro l hl f k b n hf hb hk
    have e : l = [] := List.eq_nil_of_length_eq_zero (by omega)
    subst e
    rw [groups_nil] at hk ⊢
    exact nilcase k b n (by simpa using hk)
  | succ m ih =>
    intro l hl f k b n hf hb hk
    rcases list_cases l with rfl | ⟨h1, h3⟩ | ⟨w, x, y, z, l, rfl⟩
    · rw [groups_nil] at hk ⊢
      exact nilcase k b n (by simpa using hk)
    · obtain ⟨f, rfl⟩ : ∃ g, f = g + 1 := ⟨f - 1, by omega⟩
      rw [groups_part f l h1 h3] at hk ⊢
      have hel := eone_part_len l h3
      by_cases hk2 : k ≤ (eone l).length
      · rw [List.take_append_of_le_length hk2]
        exact dig_end _ _ _ _ (fun d hd => eone_dig l h3 d (List.mem_of_mem_take hd)) (by simp; omega)
      · have e : (eone l ++ [126, 62]).take k = eone l ++ [126] := by
          rw [List.take_append, List.take_of_length_le (by omega), show k - (eone l).length = 1 by omega]; rfl
        rw [e, dig_run (eone l) _ [] b n (eone_dig l h3) (by simp; omega), e_cut]
    · obtain ⟨f, rfl⟩ : ∃ g, f = g + 1 := ⟨f - 1, by simp at hf; omega⟩
      simp only [List.length_cons] at hl hf hb
      rw [groups_four] at hk ⊢
      rw [List.append_assoc, List.take_append]
      rw [List.length_append] at hk
      by_cases hk2 : k < (eone [w, x, y, z]).length
      · rw [show k - (eone [w, x, y, z]).length = 0 by omega, List.take_zero, List.append_nil]
        by_cases h0 : val4 [w, x, y, z] = 0
        · rw [eone, if_pos ⟨h0, rfl⟩] at hk2 ⊢
          rcases (show k = 0 by simp at hk2; omega) with rfl
          rfl
        · rw [eone, if_neg (fun h => h0 h.1)] at hk2 ⊢
          exact dig_end _ _ _ _ (fun d hd => five_dig _ (val4_lt _) d (List.mem_of_mem_take (List.mem_of_mem_take hd))) (by simp [five] at hk2 ⊢; omega)
      · rw [List.take_of_length_le (by omega), grp_four, if_neg (by omega)]
        exact ih l (by omega) f _ _ _ (by omega) (by simp; omega) (by omega)
theorem cut_eighty (l : List UInt8) (k : Nat) (h : l.length ≤ 4000) (h0 : 1 ≤ k) (hk : k < (eightyL l).length) : takeL ((eightyL l).take k) = bad 4 := by
  rw [eightyL_len] at hk
  obtain ⟨k, rfl⟩ : ∃ j, k = j + 1 := ⟨k - 1, by omega⟩
  cases k with
  | zero => rfl
  | succ k =>
    unfold eightyL
    rw [List.take_succ_cons, List.take_succ_cons, take_eighty]
    exact eighty_cut l.length l (Nat.le_refl _) _ _ _ _ (Nat.le_refl _) (by simpa using h) (by omega)
end Go.Proofs.Ytdonjnngohmknaa.qt
