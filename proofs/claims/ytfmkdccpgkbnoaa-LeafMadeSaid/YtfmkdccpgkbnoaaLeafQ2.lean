/-
  Layer 39, plain: a page's bytes there and back; cut, and with one more; errors.
-/
import Derived.Test.YtfmkdccpgkbnoaaLeafQ
namespace Go.Proofs.Ytfmkdccpgkbnoaa.lf
set_option linter.unusedVariables false
set_option linter.unusedSimpArgs false
open Go.RowKit bs

theorem mul_s (a j : Nat) : 3 * a * (j + 1) = 3 * a * j + 3 * a := by rw [Nat.mul_succ]
theorem rowsL_enc {W : Nat} (hW : 1 ≤ W ∧ W ≤ 64) (l t : List UInt8) : ∀ (k j : Nat), 3 * W * (j + k) ≤ l.length → rowsL W k (l.take (3 * W * j)) (encs W l j k ++ t, 0) = (l.take (3 * W * (j + k)), (t, 0)) := by
  intro k
  induction k with
  | zero => intro j _; simp [rowsL, encs]
  | succ k ih =>
    intro j h
    have h2 : 3 * W * (j + 1) ≤ l.length := Nat.le_trans (Nat.mul_le_mul_left _ (by omega)) h
    rw [mul_s] at h2
    rw [encs, List.append_assoc, rowsL, if_pos rfl, rowL_enc hW _ _ (rowOf_len (by omega))]
    simp only []
    rw [show l.take (3 * W * j) ++ rowOf W l j = l.take (3 * W * (j + 1)) by rw [mul_s, List.take_add]; rfl, ih (j + 1) (by rw [show j + 1 + k = j + (k + 1) by omega]; exact h)]
    rw [show j + 1 + k = j + (k + 1) by omega]
theorem rowsL_inv {W : Nat} (hW : 1 ≤ W ∧ W ≤ 64) : ∀ (k j : Nat) (pix : List UInt8) (s : S) (r : List UInt8) (s' : S), rowsL W k pix s = (r, s') → s'.2 = 0 → pix.length = 3 * W * j →
    s.2 = 0 ∧ r.length = 3 * W * (j + k) ∧ r.take (3 * W * j) = pix ∧ s.1 = encs W r j k ++ s'.1 := by
  intro k
  induction k with
  | zero =>
    intro j pix s r s' h h0 hl
    simp only [rowsL, Prod.mk.injEq] at h
    obtain ⟨rfl, rfl⟩ := h
    exact ⟨h0, hl, by rw [← hl]; exact List.take_length, by simp [encs]⟩
  | succ k ih =>
    intro j pix s r s' h h0 hl
    rw [rowsL] at h
    by_cases he : s.2 = 0
    · rw [if_pos he] at h
      obtain ⟨row, hrow⟩ : ∃ x, (rowL W s).1 = x := ⟨_, rfl⟩
      obtain ⟨s1, hs1⟩ : ∃ x, (rowL W s).2 = x := ⟨_, rfl⟩
      have hr : rowL W s = (row, s1) := by rw [← hrow, ← hs1]
      rw [hrow, hs1] at h
      have a := fun hp => ih (j + 1) _ _ _ _ h h0 hp
      have b : s1.2 = 0 := by
        by_cases hs : s1.2 = 0
        · exact hs
        · cases k with
          | zero => simp only [rowsL, Prod.mk.injEq] at h; rw [h.2]; exact h0
          | succ k => rw [rowsL, if_neg hs] at h; simp only [Prod.mk.injEq] at h; rw [h.2]; exact h0
      have c := rowL_inv hW hr b
      obtain ⟨a1, a2, a3, a4⟩ := a (by rw [List.length_append, hl, c.2.1, mul_s])
      refine ⟨he, by rw [a2, show j + 1 + k = j + (k + 1) by omega], ?_, ?_⟩
      · have := congrArg (List.take (3 * W * j)) a3
        rw [List.take_take, Nat.min_eq_left (by rw [mul_s]; omega), ← hl, List.take_left] at this
        rw [← hl]; exact this
      · have hro : rowOf W r j = row := by
          unfold rowOf
          rw [List.take_drop, ← mul_s, a3, ← hl, List.drop_left]
        rw [encs, hro, c.2.2, a4, List.append_assoc]
    · rw [if_neg he] at h
      simp only [Prod.mk.injEq] at h
      obtain ⟨_, rfl⟩ := h
      exact absurd h0 he

/-! ### the head -/
theorem szS_cons {n : Nat} (h : 1 ≤ n ∧ n ≤ 64) (t : List UInt8) : szS (UInt8.ofNat n :: t, 0) = (t, 0) := by
  unfold szS
  rw [hd_cons, tkS_cons, ofNat_toNat (by omega), wt_true (by simp; omega)]
theorem headS_put {W H : Nat} (hW : 1 ≤ W ∧ W ≤ 64) (hH : 1 ≤ H ∧ H ≤ 64) (t : List UInt8) : headS (headL W H ++ t, 0) = (W, H, (t, 0)) := by
  unfold headS headL
  simp only [List.cons_append, List.nil_append, hd_cons, tkS_cons, wt_true (show decide (UInt8.toNat 84 = 84) = true from rfl), wt_true (show decide (UInt8.toNat 89 = 89) = true from rfl), szS_cons hW, szS_cons hH, ofNat_toNat (show W < 256 by omega), ofNat_toNat (show H < 256 by omega)]
theorem one_ok {s : S} (h : (tkS 1 s).2 = 0) : s.2 = 0 ∧ s.1 = UInt8.ofNat (hd 1 s) :: (tkS 1 s).1 ∧ hd 1 s ≤ 255 := by
  have k := tk_ok h
  unfold hd
  obtain ⟨x, hx⟩ : ∃ x, tkV 1 s = x := ⟨_, rfl⟩
  rw [hx] at k ⊢
  obtain ⟨k1, k2, k3⟩ := k
  match x, k2 with
  | [b], _ =>
    have := b.toNat_lt
    refine ⟨k1, ?_, by simp only [List.getD_cons_zero]; omega⟩
    simp only [List.getD_cons_zero]
    rw [show UInt8.ofNat b.toNat = b by apply UInt8.toNat_inj.mp; exact ofNat_toNat b.toNat_lt]
    exact k3
theorem headS_inv {s s' : S} {W H : Nat} (h : headS s = (W, H, s')) (h0 : s'.2 = 0) : (1 ≤ W ∧ W ≤ 64) ∧ (1 ≤ H ∧ H ≤ 64) ∧ s.2 = 0 ∧ s.1 = headL W H ++ s'.1 := by
  unfold headS at h
  obtain ⟨s1, e1⟩ : ∃ x, wt (decide (hd 1 s = 84)) (tkS 1 s) = x := ⟨_, rfl⟩
  simp only [e1] at h
  obtain ⟨s2, e2⟩ : ∃ x, wt (decide (hd 1 s1 = 89)) (tkS 1 s1) = x := ⟨_, rfl⟩
  simp only [e2] at h
  obtain ⟨s3, e3⟩ : ∃ x, szS s2 = x := ⟨_, rfl⟩
  simp only [e3, Prod.mk.injEq] at h
  obtain ⟨hw, hh, e4⟩ := h
  subst e4
  have d := wt_ok h0
  have d2 := one_ok d.2
  have c0 : (szS s2).2 = 0 := by rw [e3]; exact d2.1
  have c := wt_ok c0
  have c2 := one_ok c.2
  have b0 : (wt (decide (hd 1 s1 = 89)) (tkS 1 s1)).2 = 0 := by rw [e2]; exact c2.1
  have b := wt_ok b0
  have b2 := one_ok b.2
  have a0 : (wt (decide (hd 1 s = 84)) (tkS 1 s)).2 = 0 := by rw [e1]; exact b2.1
  have a := wt_ok a0
  have a2 := one_ok a.2
  have f1 : (tkS 1 s).1 = s1.1 := by rw [← e1, wt_fst]
  have f2 : (tkS 1 s1).1 = s2.1 := by rw [← e2, wt_fst]
  have f3 : (tkS 1 s2).1 = s3.1 := by rw [← e3]; unfold szS; rw [wt_fst]
  have f4 : (tkS 1 s3).1 = (szS s3).1 := by unfold szS; rw [wt_fst]
  have x1 : hd 1 s = 84 := by simpa using a.1
  have x2 : hd 1 s1 = 89 := by simpa using b.1
  have y1 := c.1
  have y2 := d.1
  simp only [Bool.and_eq_true, decide_eq_true_eq] at y1 y2
  rw [hw] at y1
  rw [hh] at y2
  refine ⟨y1, y2, a2.1, ?_⟩
  rw [a2.2.1, f1, b2.2.1, f2, c2.2.1, f3, d2.2.1, f4, x1, x2, hw, hh]
  rfl

/-! ### a page -/
theorem takeB_put {W H : Nat} (hW : 1 ≤ W ∧ W ≤ 64) (hH : 1 ≤ H ∧ H ≤ 64) (l : List UInt8) (hl : l.length = 3 * W * H) : takeB (putL W H l) = (W, H, l, ([], 0)) := by
  unfold takeB putL
  rw [headS_put hW hH]
  simp only []
  have e := rowsL_enc hW l [] H 0 (by rw [Nat.zero_add, hl]; exact Nat.le_refl _)
  rw [List.append_nil, Nat.mul_zero, List.take_zero, Nat.zero_add, ← hl, List.take_length] at e
  rw [e]
  rfl
theorem takeB_inv {b : List UInt8} {W H : Nat} {pix : List UInt8} {sf : S} (h : takeB b = (W, H, pix, sf)) (h0 : sf.2 = 0) : (1 ≤ W ∧ W ≤ 64) ∧ (1 ≤ H ∧ H ≤ 64) ∧ pix.length = 3 * W * H ∧ b = putL W H pix := by
  unfold takeB at h
  obtain ⟨w, hh, s1, e1⟩ : ∃ w hh s1, headS (b, 0) = (w, hh, s1) := ⟨_, _, _, rfl⟩
  rw [e1] at h
  simp only [] at h
  obtain ⟨r, s2, e2⟩ : ∃ r s2, rowsL w hh [] s1 = (r, s2) := ⟨_, _, rfl⟩
  rw [e2] at h
  simp only [Prod.mk.injEq] at h
  obtain ⟨rfl, rfl, rfl, rfl⟩ := h
  have a := wt_ok h0
  by_cases hs : s1.2 = 0
  · have k := headS_inv e1 hs
    have j := rowsL_inv k.1 hh 0 [] s1 r s2 e2 a.2 (by simp)
    refine ⟨k.1, k.2.1, by rw [j.2.1, Nat.zero_add], ?_⟩
    have z : s2.1 = [] := List.eq_nil_of_length_eq_zero (by simpa using a.1)
    unfold putL
    rw [show b = _ from k.2.2.2, j.2.2.2, z, List.append_nil]
  · exfalso
    cases hh with
    | zero => simp only [rowsL, Prod.mk.injEq] at e2; rw [← e2.2] at a; exact hs a.2
    | succ k => rw [rowsL, if_neg hs] at e2; simp only [Prod.mk.injEq] at e2; rw [← e2.2] at a; exact hs a.2

/-! ### more bytes behind -/
def X (c : List UInt8) (s : S) : S := (s.1 ++ c, s.2)
theorem tk_ext (k : Nat) (c : List UInt8) (s : S) : (tkS k s).2 = 4 ∨ (tkV k (X c s) = tkV k s ∧ tkS k (X c s) = X c (tkS k s)) := by
  unfold tkV tkS X failS
  by_cases h : s.2 = 0
  · by_cases hk : k ≤ s.1.length
    · right
      rw [if_pos ⟨h, by simp; omega⟩, if_pos ⟨h, hk⟩, if_pos ⟨h, by simp; omega⟩, if_pos ⟨h, hk⟩]
      exact ⟨List.take_append_of_le_length hk, by simp only [Prod.mk.injEq, and_true]; exact List.drop_append_of_le_length hk⟩
    · left
      rw [if_neg (fun e => hk e.2), if_pos h]
  · right
    simp [h]
theorem wt_ext (p : Bool) (c : List UInt8) (s : S) : wt p (X c s) = X c (wt p s) := by
  unfold wt failS X
  split
  · rfl
  · split <;> rfl
theorem wt_4 {p : Bool} {s : S} (h : s.2 = 4) : (wt p s).2 = 4 := by
  unfold wt failS
  split
  · exact h
  · rw [if_neg (by rw [h]; decide)]; exact h
theorem tk_4 {k : Nat} {s : S} (h : s.2 = 4) : (tkS k s).2 = 4 := by
  unfold tkS failS
  rw [if_neg (fun e => by rw [h] at e; exact absurd e.1 (by decide)), if_neg (by rw [h]; decide)]; exact h
theorem hd_ext {k : Nat} {c : List UInt8} {s : S} (h : tkV k (X c s) = tkV k s) : hd k (X c s) = hd k s := by unfold hd; rw [h]
theorem runsL_e {W n : Nat} {row last : List UInt8} {s : S} (h : s.2 ≠ 0) : runsL W n row last s = (row, s) := by
  cases n with
  | zero => rfl
  | succ n => rw [runsL, if_neg h]
theorem rowsL_e {W n : Nat} {pix : List UInt8} {s : S} (h : s.2 ≠ 0) : rowsL W n pix s = (pix, s) := by
  cases n with
  | zero => rfl
  | succ n => rw [rowsL, if_neg h]
theorem four_ne {s : S} (h : s.2 = 4) : s.2 ≠ 0 := by rw [h]; decide
theorem runsL_ext (W : Nat) (c : List UInt8) : ∀ (n : Nat) (row last : List UInt8) (s : S), (runsL W n row last s).2.2 = 4 ∨ runsL W n row last (X c s) = ((runsL W n row last s).1, X c (runsL W n row last s).2) := by
  intro n
  induction n with
  | zero => intro row last s; right; rfl
  | succ n ih =>
    intro row last s
    by_cases h : s.2 = 0
    · rw [runsL, if_pos h]
      simp only []
      rcases tk_ext 4 c s with e | ⟨e1, e2⟩
      · left
        have h4 : (wt (runOk W row last (tkV 4 s)) (tkS 4 s)).2 = 4 := wt_4 e
        rw [runsL_e (four_ne h4)]
        exact h4
      · rw [runsL, if_pos (show (X c s).2 = 0 from h)]
        simp only [e1, e2, wt_ext]
        exact ih _ _ _
    · right
      rw [runsL_e h, runsL_e (show (X c s).2 ≠ 0 from h)]
theorem plainL_ext (W : Nat) (c : List UInt8) (s : S) : (plainL W s).2.2 = 4 ∨ plainL W (X c s) = ((plainL W s).1, X c (plainL W s).2) := by
  unfold plainL
  rcases tk_ext (3 * W) c s with e | ⟨e1, e2⟩
  · left; exact wt_4 e
  · right; rw [e1, e2, wt_ext]
theorem rowedL_4 {W : Nat} {s : S} (h : (tkS 1 s).2 = 4) : (rowedL W s).2.2 = 4 := by
  unfold rowedL
  simp only []
  have h4 : (wt (decide (0 < hd 1 s) && decide (2 + 4 * hd 1 s < 1 + 3 * W)) (tkS 1 s)).2 = 4 := wt_4 h
  rw [runsL_e (four_ne h4)]
  exact wt_4 h4
theorem rowedL_ext (W : Nat) (c : List UInt8) (s : S) : (rowedL W s).2.2 = 4 ∨ rowedL W (X c s) = ((rowedL W s).1, X c (rowedL W s).2) := by
  rcases tk_ext 1 c s with e | ⟨e1, e2⟩
  · left; exact rowedL_4 e
  · unfold rowedL
    simp only [hd_ext e1, e2, wt_ext]
    rcases runsL_ext W c (hd 1 s) [] [] (wt (decide (0 < hd 1 s) && decide (2 + 4 * hd 1 s < 1 + 3 * W)) (tkS 1 s)) with e | e
    · left; exact wt_4 e
    · right; rw [e, wt_ext]
theorem rowL_e {W : Nat} {s : S} (h : s.2 = 4) : (rowL W s).2.2 = 4 := by
  unfold rowL
  simp only []
  have h4 : (wt (decide (hd 1 s ≤ 1)) (tkS 1 s)).2 = 4 := wt_4 (tk_4 h)
  rw [if_neg (four_ne h4)]
  exact h4
theorem rowL_ext (W : Nat) (c : List UInt8) (s : S) : (rowL W s).2.2 = 4 ∨ rowL W (X c s) = ((rowL W s).1, X c (rowL W s).2) := by
  rcases tk_ext 1 c s with e | ⟨e1, e2⟩
  · left
    unfold rowL
    simp only []
    have h4 : (wt (decide (hd 1 s ≤ 1)) (tkS 1 s)).2 = 4 := wt_4 e
    rw [if_neg (four_ne h4)]
    exact h4
  · unfold rowL
    simp only [hd_ext e1, e2, wt_ext]
    by_cases h : (wt (decide (hd 1 s ≤ 1)) (tkS 1 s)).2 = 0
    · rw [if_pos h, if_pos (show (X c (wt (decide (hd 1 s ≤ 1)) (tkS 1 s))).2 = 0 from h)]
      by_cases hz : hd 1 s = 0
      · rw [if_pos hz, if_pos hz]; exact plainL_ext W c _
      · rw [if_neg hz, if_neg hz]; exact rowedL_ext W c _
    · rw [if_neg h, if_neg (show (X c (wt (decide (hd 1 s ≤ 1)) (tkS 1 s))).2 ≠ 0 from h)]
      right; rfl
theorem rowsL_ext (W : Nat) (c : List UInt8) : ∀ (n : Nat) (pix : List UInt8) (s : S), (rowsL W n pix s).2.2 = 4 ∨ rowsL W n pix (X c s) = ((rowsL W n pix s).1, X c (rowsL W n pix s).2) := by
  intro n
  induction n with
  | zero => intro pix s; right; rfl
  | succ n ih =>
    intro pix s
    by_cases h : s.2 = 0
    · rw [rowsL, if_pos h, rowsL, if_pos (show (X c s).2 = 0 from h)]
      rcases rowL_ext W c s with e | e
      · left; rw [rowsL_e (four_ne e)]; exact e
      · rw [e]; exact ih _ _
    · right
      rw [rowsL_e h, rowsL_e (show (X c s).2 ≠ 0 from h)]
theorem szS_4 {s : S} (h : s.2 = 4) : (szS s).2 = 4 := wt_4 (tk_4 h)
theorem szS_ext (c : List UInt8) (s : S) : (szS s).2 = 4 ∨ (hd 1 (X c s) = hd 1 s ∧ szS (X c s) = X c (szS s)) := by
  rcases tk_ext 1 c s with e | ⟨e1, e2⟩
  · left; exact wt_4 e
  · right; exact ⟨hd_ext e1, by unfold szS; rw [hd_ext e1, e2, wt_ext]⟩
theorem headS_ext (c : List UInt8) (s : S) : (headS s).2.2.2 = 4 ∨ headS (X c s) = ((headS s).1, (headS s).2.1, X c (headS s).2.2) := by
  unfold headS
  simp only []
  rcases tk_ext 1 c s with e | ⟨e1, e2⟩
  · left; exact szS_4 (szS_4 (wt_4 (tk_4 (wt_4 e))))
  · simp only [hd_ext e1, e2, wt_ext]
    obtain ⟨s1, h1⟩ : ∃ x, wt (decide (hd 1 s = 84)) (tkS 1 s) = x := ⟨_, rfl⟩
    simp only [h1]
    rcases tk_ext 1 c s1 with e | ⟨e1, e2⟩
    · left; exact szS_4 (szS_4 (wt_4 e))
    · simp only [hd_ext e1, e2, wt_ext]
      obtain ⟨s2, h2⟩ : ∃ x, wt (decide (hd 1 s1 = 89)) (tkS 1 s1) = x := ⟨_, rfl⟩
      simp only [h2]
      rcases szS_ext c s2 with e | ⟨e1, e2⟩
      · left; exact szS_4 e
      · simp only [e1, e2]
        rcases szS_ext c (szS s2) with e | ⟨e1, e2⟩
        · left; exact e
        · right; simp only [e1, e2]
/-- the state ahead of the last test -/
def endS (b : List UInt8) : S := (rowsL (headS (b, 0)).1 (headS (b, 0)).2.1 [] (headS (b, 0)).2.2).2
theorem takeB_end (b : List UInt8) : (takeB b).2.2.2 = wt (decide ((endS b).1.length = 0)) (endS b) := by unfold takeB endS; simp only []
theorem endS_ext (b c : List UInt8) : (endS b).2 = 4 ∨ endS (b ++ c) = X c (endS b) := by
  unfold endS
  rw [show ((b ++ c, 0) : S) = X c (b, 0) from rfl]
  rcases headS_ext c (b, 0) with e | e
  · left; rw [rowsL_e (four_ne e)]; exact e
  · rw [e]
    rcases rowsL_ext (headS (b, 0)).1 c (headS (b, 0)).2.1 [] (headS (b, 0)).2.2 with e | e
    · left; exact e
    · right; rw [e]
/-- a page's bytes, cut -/
theorem take_cut {W H : Nat} (hW : 1 ≤ W ∧ W ≤ 64) (hH : 1 ≤ H ∧ H ≤ 64) (l : List UInt8) (hl : l.length = 3 * W * H) (i : Nat) (hi : i < (putL W H l).length) : (takeB ((putL W H l).take i)).2.2.2.2 = 4 := by
  rw [takeB_end]
  rcases endS_ext ((putL W H l).take i) ((putL W H l).drop i) with e | e
  · exact wt_4 e
  · exfalso
    rw [List.take_append_drop] at e
    have h := takeB_end (putL W H l)
    rw [takeB_put hW hH l hl, e] at h
    have h1 := congrArg Prod.fst h
    rw [wt_fst] at h1
    have h2 := congrArg List.length h1
    simp only [X, List.length_append, List.length_nil, List.length_drop] at h2
    omega
/-- a page's bytes, and one more -/
theorem take_more {W H : Nat} (hW : 1 ≤ W ∧ W ≤ 64) (hH : 1 ≤ H ∧ H ≤ 64) (l : List UInt8) (hl : l.length = 3 * W * H) (x : UInt8) : (takeB (putL W H l ++ [x])).2.2.2.2 = 3 := by
  have h := takeB_end (putL W H l)
  rw [takeB_put hW hH l hl] at h
  have h0 : (wt (decide ((endS (putL W H l)).1.length = 0)) (endS (putL W H l))).2 = 0 := by rw [← h]
  have h1 := (wt_ok h0).2
  rcases endS_ext (putL W H l) [x] with e | e
  · rw [h1] at e; exact absurd e (by decide)
  · rw [takeB_end, e]
    have hz : decide ((X [x] (endS (putL W H l))).1.length = 0) = false := by simp [X]
    rw [hz]
    unfold wt failS X
    simp only [Bool.false_eq_true, if_false, h1, if_true]

/-! ### errors -/
def Er (s : S) : Prop := s.2 = 0 ∨ s.2 = 3 ∨ s.2 = 4
theorem er_wt {p : Bool} {s : S} (h : Er s) : Er (wt p s) := by
  unfold wt failS
  split
  · exact h
  · split
    · exact .inr (.inl rfl)
    · exact h
theorem er_tk {k : Nat} {s : S} (h : Er s) : Er (tkS k s) := by
  unfold tkS failS
  split
  · exact .inl rfl
  · split
    · exact .inr (.inr rfl)
    · exact h
theorem er_runs (W : Nat) : ∀ (n : Nat) (row last : List UInt8) (s : S), Er s → Er (runsL W n row last s).2 := by
  intro n
  induction n with
  | zero => intro row last s h; exact h
  | succ n ih =>
    intro row last s h
    rw [runsL]
    split
    · exact ih _ _ _ (er_wt (er_tk h))
    · exact h
theorem er_row (W : Nat) (s : S) (h : Er s) : Er (rowL W s).2 := by
  unfold rowL
  simp only []
  split
  · split
    · exact er_wt (er_tk (er_wt (er_tk h)))
    · exact er_wt (er_runs W _ _ _ _ (er_wt (er_tk (er_wt (er_tk h)))))
  · exact er_wt (er_tk h)
theorem er_rows (W : Nat) : ∀ (n : Nat) (pix : List UInt8) (s : S), Er s → Er (rowsL W n pix s).2 := by
  intro n
  induction n with
  | zero => intro pix s h; exact h
  | succ n ih =>
    intro pix s h
    rw [rowsL]
    split
    · exact ih _ _ (er_row W s h)
    · exact h
theorem er_sz {s : S} (h : Er s) : Er (szS s) := er_wt (er_tk h)
theorem er_head (s : S) (h : Er s) : Er (headS s).2.2 := by
  unfold headS
  simp only []
  exact er_sz (er_sz (er_wt (er_tk (er_wt (er_tk h)))))
theorem takeB_er (b : List UInt8) : Er (takeB b).2.2.2 := by
  rw [takeB_end]
  have z : Er ((b, 0) : S) := .inl rfl
  unfold endS
  exact er_wt (er_rows _ _ _ _ (er_head _ z))

/-! ### how many bytes -/
theorem encRow_size (W : Nat) (r : List UInt8) (hr : r.length = 3 * W) : (encRow W r).length = min (2 + 4 * (rle (pxs r 0 W)).length) (1 + 3 * W) := by
  unfold encRow
  rw [runsB_len]
  split
  · rw [runsB_len]; omega
  · simp; omega
theorem rle_pos {W : Nat} (h : 1 ≤ W) (r : List UInt8) : 1 ≤ (rle (pxs r 0 W)).length := by
  obtain ⟨k, rfl⟩ : ∃ k, W = k + 1 := ⟨W - 1, by omega⟩
  rw [pxs]
  obtain ⟨n, rs, e⟩ := rle_head (px r 0) (pxs r 1 k)
  rw [e]; simp
theorem encRow_ge {W : Nat} (h : 1 ≤ W) (r : List UInt8) (hr : r.length = 3 * W) : min 6 (1 + 3 * W) ≤ (encRow W r).length := by
  rw [encRow_size W r hr]
  have := rle_pos h r
  omega
theorem encs_ge {W : Nat} (h : 1 ≤ W) (l : List UInt8) (k : Nat) : ∀ j, 3 * W * (j + k) ≤ l.length → k * min 6 (1 + 3 * W) ≤ (encs W l j k).length := by
  induction k with
  | zero => intro j _; simp
  | succ k ih =>
    intro j hl
    have h1 := ih (j + 1) (by rw [show j + 1 + k = j + (k + 1) by omega]; exact hl)
    have h2 : 3 * W * (j + 1) ≤ l.length := Nat.le_trans (Nat.mul_le_mul_left _ (by omega)) hl
    rw [mul_s] at h2
    have h3 := encRow_ge h (rowOf W l j) (rowOf_len (by omega))
    rw [encs, List.length_append, Nat.succ_mul]
    omega
/-- rows with few runs -/
theorem encs_le {W m : Nat} (l : List UInt8) (k : Nat) : ∀ j, 3 * W * (j + k) ≤ l.length → (∀ i, j ≤ i → i < j + k → (rle (pxs (rowOf W l i) 0 W)).length ≤ m) → (encs W l j k).length ≤ k * min (2 + 4 * m) (1 + 3 * W) := by
  induction k with
  | zero => intro j _ _; simp [encs]
  | succ k ih =>
    intro j hl hr
    have h1 := ih (j + 1) (by rw [show j + 1 + k = j + (k + 1) by omega]; exact hl) (fun i a b => hr i (by omega) (by omega))
    have h2 : 3 * W * (j + 1) ≤ l.length := Nat.le_trans (Nat.mul_le_mul_left _ (by omega)) hl
    rw [mul_s] at h2
    have h3 := encRow_size W (rowOf W l j) (rowOf_len (by omega))
    have h4 := hr j (Nat.le_refl _) (by omega)
    rw [encs, List.length_append, Nat.succ_mul]
    omega
end Go.Proofs.Ytfmkdccpgkbnoaa.lf
