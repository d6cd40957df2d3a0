/-
  Layer 7, plain: blanks within < > and <~ ~>, small and great digits: the reader's state stays the same.
-/
import Derived.Test.YtdonjnngohmknaaQBack2
namespace Go.Proofs.Ytdonjnngohmknaa.qt
set_option linter.unusedVariables false
set_option linter.unusedSimpArgs false
open ch

theorem bad_ne {L : List UInt8} {m e : Int} (he : e ≠ 0) : bad e ≠ (L, m, 0) := by
  intro h
  simp only [bad, Prod.mk.injEq] at h
  exact he h.2.2

/-! ### < > -/
/-- X is p with blanks, in great or small digits: both leave the reader in one state -/
def HRun (X p : List UInt8) : Prop := ∃ (h : Int) (b : List UInt8), (∀ r n, hexR (X ++ r) (-1) [] n = hexR r h b (n + X.length)) ∧ (∀ o n, hexR (p ++ o) (-1) [] n = hexR o h b (n + p.length))
theorem HRun.nil_ : HRun [] [] := ⟨-1, [], fun r n => rfl, fun o n => rfl⟩
theorem hexR_blank (c : UInt8) (r : List UInt8) (h : Int) (b : List UInt8) (n : Nat) (hk : kind (c.toNat : Int) = 1) : hexR (c :: r) h b n = hexR r h b (n + 1) := by rw [hexR, if_pos hk]
theorem HRun.blank {X p : List UInt8} (H : HRun X p) (c : UInt8) (hk : kind (c.toNat : Int) = 1) : HRun (X ++ [c]) p := by
  obtain ⟨h, b, h1, h2⟩ := H
  refine ⟨h, b, fun r n => ?_, h2⟩
  rw [List.append_assoc, h1]
  show hexR (c :: r) h b _ = _
  rw [hexR_blank _ _ _ _ _ hk, List.length_append]; rfl
theorem HRun.blanks {X p : List UInt8} (H : HRun X p) : ∀ (G : List UInt8), (∀ c ∈ G, kind (c.toNat : Int) = 1) → HRun (X ++ G) p := by
  intro G
  induction G generalizing X with
  | nil => intro _; rwa [List.append_nil]
  | cons c G ih =>
    intro hG
    have := ih (H.blank c (hG c (by simp))) (fun x hx => hG x (by simp [hx]))
    rwa [List.append_assoc] at this
theorem HRun.char {X p rest L : List UInt8} {m : Int} (H : HRun X p) (c c' : UInt8) (hok : hexR (p ++ c :: rest) (-1) [] 1 = (L, m, 0)) (hk : kind (c.toNat : Int) ≠ 1) (hk' : kind (c'.toNat : Int) ≠ 1) (hc : c ≠ 62) (hc' : c' ≠ 62) (hv : value (c'.toNat : Int) = value (c.toNat : Int)) : HRun (X ++ [c']) (p ++ [c]) := by
  obtain ⟨h, b, h1, h2⟩ := H
  rw [h2, hexR, if_neg hk, if_neg hc] at hok
  by_cases hx : value (c.toNat : Int) < 0 ∨ 15 < value (c.toNat : Int)
  · rw [if_pos hx] at hok; exact absurd hok (bad_ne (by decide))
  rw [if_neg hx] at hok
  by_cases hh : h < 0
  · refine ⟨value (c.toNat : Int), b, fun r n => ?_, fun o n => ?_⟩
    · rw [List.append_assoc, h1]
      show hexR (c' :: r) h b _ = _
      rw [hexR, if_neg hk', if_neg hc', hv, if_neg hx, if_pos hh, List.length_append]; rfl
    · rw [List.append_assoc, h2]
      show hexR (c :: o) h b _ = _
      rw [hexR, if_neg hk, if_neg hc, if_neg hx, if_pos hh, List.length_append]; rfl
  rw [if_neg hh] at hok
  by_cases hb : 4000 ≤ b.length
  · rw [if_pos hb] at hok; exact absurd hok (bad_ne (by decide))
  refine ⟨-1, b ++ [UInt8.ofNat (16 * h + value (c.toNat : Int)).toNat], fun r n => ?_, fun o n => ?_⟩
  · rw [List.append_assoc, h1]
    show hexR (c' :: r) h b _ = _
    rw [hexR, if_neg hk', if_neg hc', hv, if_neg hx, if_neg hh, if_neg hb, List.length_append]; rfl
  · rw [List.append_assoc, h2]
    show hexR (c :: o) h b _ = _
    rw [hexR, if_neg hk, if_neg hc, if_neg hx, if_neg hh, if_neg hb, List.length_append]; rfl
theorem HRun.fin {X p L : List UInt8} {m : Int} (H : HRun X p) (hok : hexR (p ++ [62]) (-1) [] 1 = (L, m, 0)) : hexR (X ++ [62]) (-1) [] 1 = (L, ((1 + X.length + 1 : Nat) : Int), 0) := by
  obtain ⟨h, b, h1, h2⟩ := H
  rw [h2, hexR, if_neg (by decide), if_pos rfl] at hok
  rw [h1, hexR, if_neg (by decide), if_pos rfl]
  by_cases hh : 0 ≤ h
  · rw [if_pos hh] at hok ⊢
    by_cases hb : 4000 ≤ b.length
    · rw [if_pos hb] at hok; exact absurd hok (bad_ne (by decide))
    · rw [if_neg hb] at hok ⊢
      simp only [Prod.mk.injEq] at hok ⊢
      exact ⟨hok.1, trivial⟩
  · rw [if_neg hh] at hok ⊢
    simp only [Prod.mk.injEq] at hok ⊢
    exact ⟨hok.1, trivial⟩
theorem hex_ok (L : List UInt8) (h : L.length ≤ 4000) : ∃ m, hexR (L.flatMap hone ++ [62]) (-1) [] 1 = (L, m, 0) :=
  ⟨_, by rw [hex_all L _ _ _ (by simpa using h), hex_close, List.nil_append]⟩
/-- a digit of < > as it is written -/
def hdig (c : UInt8) : Prop := (48 ≤ c.toNat ∧ c.toNat ≤ 57) ∨ (97 ≤ c.toNat ∧ c.toNat ≤ 102)
theorem hexd_dig (k : Nat) (h : k < 16) : hdig (hexd k) := by
  unfold hexd hdig
  split
  · rw [ofN _ (by omega)]; omega
  · rw [ofN _ (by omega)]; omega
theorem hone_dig (L : List UInt8) : ∀ c ∈ L.flatMap hone, hdig c := by
  intro c hc
  rw [List.mem_flatMap] at hc
  obtain ⟨x, _, hx⟩ := hc
  have := n8 x
  simp only [hone, List.mem_cons, List.not_mem_nil, or_false] at hx
  rcases hx with rfl | rfl
  · exact hexd_dig _ (by omega)
  · exact hexd_dig _ (by omega)
theorem kind3 (c : Int) (h : 48 ≤ c ∧ c ≤ 57 ∨ 65 ≤ c ∧ c ≤ 90 ∨ 97 ≤ c ∧ c ≤ 122) : kind c ≠ 1 := by
  unfold kind
  rw [if_neg (by omega), if_neg (by omega)]; decide
theorem hdig_facts (c : UInt8) (h : hdig c) : kind (c.toNat : Int) ≠ 1 ∧ c ≠ 62 ∧ c ≠ 126 := by
  unfold hdig at h
  refine ⟨kind3 _ (by omega), ?_, ?_⟩
  · rintro rfl; revert h; decide
  · rintro rfl; revert h; decide
/-- a great digit in its place -/
theorem great_facts (c c' : UInt8) (h : 97 ≤ c.toNat ∧ c.toNat ≤ 102) (h' : c'.toNat = c.toNat - 32) : kind (c'.toNat : Int) ≠ 1 ∧ c' ≠ 62 ∧ c' ≠ 126 ∧ value (c'.toNat : Int) = value (c.toNat : Int) := by
  refine ⟨kind3 _ (by omega), ?_, ?_, ?_⟩
  · rintro rfl
    have e : (62 : UInt8).toNat = 62 := rfl
    omega
  · rintro rfl
    have e : (126 : UInt8).toNat = 126 := rfl
    omega
  · unfold value
    rw [if_neg (by omega), if_neg (by omega), if_pos (by omega), if_neg (by omega), if_pos (by omega)]
    omega
theorem take_hrun {X p L : List UInt8} {m : Int} (H : HRun X p) (hok : hexR (p ++ [62]) (-1) [] 1 = (L, m, 0)) (hX : X.head? ≠ some 126) : takeL (60 :: (X ++ [62])) = (L, ((X.length + 2 : Nat) : Int), 0) := by
  have hf := H.fin hok
  cases X with
  | nil =>
    rw [List.nil_append] at hf ⊢
    rw [hex_ne 62 [] (by decide), hf]
    rfl
  | cons x t =>
    rw [List.cons_append] at hf ⊢
    rw [hex_ne x _ (by simpa using hX), hf]
    congr 2
    omega
theorem head_snoc {X : List UInt8} {c : UInt8} (hX : X.head? ≠ some 126) (hc : c ≠ 126) : (X ++ [c]).head? ≠ some 126 := by
  cases X with
  | nil => simpa using hc
  | cons x t => simpa using hX
theorem head_blanks {X : List UInt8} (hX : X.head? ≠ some 126) : ∀ G : List UInt8, (∀ c ∈ G, kind (c.toNat : Int) = 1) → (X ++ G).head? ≠ some 126 := by
  intro G hG
  cases X with
  | nil =>
    cases G with
    | nil => simp
    | cons c G =>
      intro h
      simp at h
      have := hG c (by simp)
      rw [h] at this
      exact absurd this (by decide)
  | cons x t => simpa using hX

/-! ### <~ ~> -/
def ERun (X p : List UInt8) : Prop := ∃ (g b : List UInt8), (∀ r n, eightyR (X ++ r) [] [] n = eightyR r g b (n + X.length)) ∧ (∀ o n, eightyR (p ++ o) [] [] n = eightyR o g b (n + p.length))
theorem ERun.nil_ : ERun [] [] := ⟨[], [], fun r n => rfl, fun o n => rfl⟩
theorem eightyR_blank (c : UInt8) (r g b : List UInt8) (n : Nat) (hk : kind (c.toNat : Int) = 1) : eightyR (c :: r) g b n = eightyR r g b (n + 1) := by rw [eightyR, if_pos hk]
theorem ERun.blank {X p : List UInt8} (H : ERun X p) (c : UInt8) (hk : kind (c.toNat : Int) = 1) : ERun (X ++ [c]) p := by
  obtain ⟨h, b, h1, h2⟩ := H
  refine ⟨h, b, fun r n => ?_, h2⟩
  rw [List.append_assoc, h1]
  show eightyR (c :: r) h b _ = _
  rw [eightyR_blank _ _ _ _ _ hk, List.length_append]; rfl
theorem ERun.blanks {X p : List UInt8} (H : ERun X p) : ∀ (G : List UInt8), (∀ c ∈ G, kind (c.toNat : Int) = 1) → ERun (X ++ G) p := by
  intro G
  induction G generalizing X with
  | nil => intro _; rwa [List.append_nil]
  | cons c G ih =>
    intro hG
    have := ih (H.blank c (hG c (by simp))) (fun x hx => hG x (by simp [hx]))
    rwa [List.append_assoc] at this
theorem ERun.char {X p rest L : List UInt8} {m : Int} (H : ERun X p) (c : UInt8) (hok : eightyR (p ++ c :: rest) [] [] 2 = (L, m, 0)) (hc : c ≠ 126) : ERun (X ++ [c]) (p ++ [c]) := by
  obtain ⟨g, b, h1, h2⟩ := H
  have key : ∃ g' b', ∀ o n, eightyR (c :: o) g b n = eightyR o g' b' (n + 1) := by
    rw [h2, eightyR] at hok
    by_cases hk : kind (c.toNat : Int) = 1
    · exact ⟨g, b, fun o n => eightyR_blank c o g b n hk⟩
    rw [if_neg hk, if_neg hc] at hok
    by_cases hz : c = 122 ∧ g = []
    · rw [if_pos hz] at hok
      by_cases hl : 4000 < b.length + 4
      · rw [if_pos hl] at hok; exact absurd hok (bad_ne (by decide))
      · exact ⟨[], b ++ [0, 0, 0, 0], fun o n => by rw [eightyR, if_neg hk, if_neg hc, if_pos hz, if_neg hl]⟩
    rw [if_neg hz] at hok
    by_cases hd : 33 ≤ c ∧ c ≤ 117
    · rw [if_pos hd] at hok
      by_cases h4 : g.length < 4
      · exact ⟨g ++ [c], b, fun o n => by rw [eightyR, if_neg hk, if_neg hc, if_neg hz, if_pos hd, if_pos h4]⟩
      rw [if_neg h4] at hok
      by_cases hn : 4294967296 ≤ number (g ++ [c])
      · rw [if_pos hn] at hok; exact absurd hok (bad_ne (by decide))
      rw [if_neg hn] at hok
      by_cases hl : 4000 < b.length + 4
      · rw [if_pos hl] at hok; exact absurd hok (bad_ne (by decide))
      · exact ⟨[], b ++ bytes4 (number (g ++ [c])), fun o n => by rw [eightyR, if_neg hk, if_neg hc, if_neg hz, if_pos hd, if_neg h4, if_neg hn, if_neg hl]⟩
    · rw [if_neg hd] at hok; exact absurd hok (bad_ne (by decide))
  obtain ⟨g', b', hst⟩ := key
  refine ⟨g', b', fun r n => ?_, fun o n => ?_⟩
  · rw [List.append_assoc, h1]
    show eightyR (c :: r) g b _ = _
    rw [hst, List.length_append]; rfl
  · rw [List.append_assoc, h2]
    show eightyR (c :: o) g b _ = _
    rw [hst, List.length_append]; rfl
theorem lastR_any {g b L : List UInt8} {n : Nat} {m : Int} (h : lastR g b n = (L, m, 0)) (n' : Nat) : lastR g b n' = (L, (n' : Int), 0) := by
  unfold lastR at h ⊢
  by_cases h1 : g = []
  · rw [if_pos h1] at h ⊢
    simp only [Prod.mk.injEq] at h ⊢
    exact ⟨h.1, trivial⟩
  rw [if_neg h1] at h ⊢
  by_cases h2 : 4294967296 ≤ number (fill g) ∨ g.length = 1
  · rw [if_pos h2] at h; exact absurd h (bad_ne (by decide))
  rw [if_neg h2] at h ⊢
  by_cases h3 : 4000 < b.length + (g.length - 1)
  · rw [if_pos h3] at h; exact absurd h (bad_ne (by decide))
  rw [if_neg h3] at h ⊢
  simp only [Prod.mk.injEq] at h ⊢
  exact ⟨h.1, trivial⟩
theorem take_erun {X p L : List UInt8} {m : Int} (H : ERun X p) (hok : eightyR (p ++ [126, 62]) [] [] 2 = (L, m, 0)) : takeL (60 :: 126 :: (X ++ [126, 62])) = (L, ((X.length + 4 : Nat) : Int), 0) := by
  obtain ⟨g, b, h1, h2⟩ := H
  rw [h2, e_last] at hok
  rw [take_eighty, h1, e_last, lastR_any hok]
  congr 2
  omega
theorem eighty_ok (L : List UInt8) (h : L.length ≤ 4000) : ∃ m, eightyR (groups L.length L ++ [126, 62]) [] [] 2 = (L, m, 0) :=
  ⟨_, by rw [eighty_all L.length L (Nat.le_refl _) _ _ _ _ (Nat.le_refl _) (by simp), if_neg (by simp; omega), List.nil_append]⟩
theorem eone_ne (l : List UInt8) : ∀ c ∈ eone l, c ≠ 126 := by
  intro c hc
  rw [eone] at hc
  split at hc
  · simp at hc; rw [hc]; decide
  · have := five_dig _ (val4_lt l) c (List.mem_of_mem_take hc)
    rintro rfl
    exact absurd this.2 (by decide)
theorem groups_ne (f : Nat) : ∀ l : List UInt8, ∀ c ∈ groups f l, c ≠ 126 := by
  induction f with
  | zero => intro l c hc; simp [groups] at hc
  | succ f ih =>
    intro l c hc
    cases l with
    | nil => simp [groups] at hc
    | cons x l =>
      rw [groups, List.mem_append] at hc
      rcases hc with hc | hc
      · exact eone_ne _ c hc
      · exact ih _ c hc
end Go.Proofs.Ytdonjnngohmknaa.qt
