/-
  Layer 39, plain: a row's bytes there and back; a page's bytes there and back; cut, and with one more.
-/
import Derived.Test.YtfmkdccpgkbnoaaLeafRowA
namespace Go.Proofs.Ytfmkdccpgkbnoaa.lf
set_option linter.unusedVariables false
set_option linter.unusedSimpArgs false
open Go.RowKit bs

/-! ### pixels and bytes -/
def bsOf : List T → List UInt8
  | [] => []
  | p :: ps => three p ++ bsOf ps
def flat : List (Nat × T) → List T
  | [] => []
  | (n, p) :: rs => List.replicate n p ++ flat rs
theorem bsOf_append (a b : List T) : bsOf (a ++ b) = bsOf a ++ bsOf b := by
  induction a with
  | nil => rfl
  | cons p ps ih => simp [bsOf, ih]
theorem bsOf_len (a : List T) : (bsOf a).length = 3 * a.length := by
  induction a with
  | nil => rfl
  | cons p ps ih => simp [bsOf, three, ih]; omega
theorem bsOf_rep (p : T) (n : Nat) : bsOf (List.replicate n p) = rep (three p) n := by
  induction n with
  | zero => rfl
  | succ n ih => rw [List.replicate_succ, bsOf, ih]; rfl
theorem px_cons (p : T) (l : List UInt8) (j : Nat) : px (three p ++ l) (j + 1) = px l j := by
  obtain ⟨a, b, c⟩ := p
  simp only [px, three, show 3 * (j + 1) = 3 * j + 1 + 1 + 1 by omega, List.cons_append, List.nil_append, List.getD_cons_succ, show 3 * j + 1 + 1 + 1 + 1 = 3 * j + 1 + 1 + 1 + 1 from rfl, show 3 * j + 1 + 1 + 1 + 2 = 3 * j + 2 + 1 + 1 + 1 by omega]
theorem px_zero (p : T) (l : List UInt8) : px (three p ++ l) 0 = p := by
  obtain ⟨a, b, c⟩ := p
  simp [px, three]
theorem pxs_cons (p : T) (l : List UInt8) (a k : Nat) : pxs (three p ++ l) (a + 1) k = pxs l a k := by
  induction k generalizing a with
  | zero => rfl
  | succ k ih => rw [pxs, pxs, px_cons, ih]
theorem pxs_bsOf (ps : List T) (t : List UInt8) : pxs (bsOf ps ++ t) 0 ps.length = ps := by
  induction ps with
  | nil => rfl
  | cons p ps ih => rw [bsOf, List.append_assoc, List.length_cons, pxs, px_zero, pxs_cons, ih]
theorem bsOf_pxs (k : Nat) (l : List UInt8) (h : l.length = 3 * k) : bsOf (pxs l 0 k) = l := by
  induction k generalizing l with
  | zero => cases l with
    | nil => rfl
    | cons a r => simp at h
  | succ k ih =>
    match l, h with
    | a :: b :: c :: r, h =>
      have e : a :: b :: c :: r = three (a, b, c) ++ r := rfl
      rw [e, pxs, px_zero, pxs_cons, bsOf, ih r (by simp at h; omega)]
theorem flat_rle (ps : List T) : flat (rle ps) = ps := by
  induction ps with
  | nil => rfl
  | cons p ps ih =>
    unfold rle
    split
    · next h => rw [h] at ih; rw [← ih]; rfl
    · next n q rs h =>
      rw [h] at ih
      split
      · next e => rw [← ih, e]; simp only [flat]; rw [List.replicate_succ]; rfl
      · rw [← ih]; rfl
/-- runs that are as long as they can be -/
def Unl : List (Nat × T) → Prop
  | [] => True
  | (n, p) :: rs => 1 ≤ n ∧ (∀ m q rs', rs = (m, q) :: rs' → p ≠ q) ∧ Unl rs
theorem unl_rle (ps : List T) : Unl (rle ps) := by
  induction ps with
  | nil => trivial
  | cons p ps ih =>
    unfold rle
    split
    · exact ⟨Nat.le_refl _, (fun _ _ _ e => by cases e), trivial⟩
    · next n q rs h =>
      rw [h] at ih
      split
      · exact ⟨by omega, ih.2.1, ih.2.2⟩
      · next e => exact ⟨Nat.le_refl _, fun m q' rs' e' => by cases e'; exact e, ih⟩
theorem rle_flat (rs : List (Nat × T)) (h : Unl rs) : rle (flat rs) = rs := by
  induction rs with
  | nil => rfl
  | cons x rs ih =>
    obtain ⟨n, p⟩ := x
    obtain ⟨h1, h2, h3⟩ := h
    obtain ⟨k, rfl⟩ : ∃ k, n = k + 1 := ⟨n - 1, by omega⟩
    rw [flat, rle_run, ih h3]
    intro q hq
    cases rs with
    | nil => simp [flat] at hq
    | cons y ys =>
      obtain ⟨m, r⟩ := y
      have hm := h3.1
      obtain ⟨i, rfl⟩ : ∃ i, m = i + 1 := ⟨m - 1, by omega⟩
      rw [flat, List.replicate_succ, List.cons_append] at hq
      simp at hq
      subst hq
      exact h2 _ _ _ rfl
theorem flat_len (rs : List (Nat × T)) (h : Unl rs) : rs.length ≤ (flat rs).length := by
  have := rle_len (flat rs)
  rw [rle_flat rs h] at this
  exact this

/-! ### the reader on bytes that begin so -/
theorem tkV_app (a t : List UInt8) : tkV a.length (a ++ t, 0) = a := by
  unfold tkV
  rw [if_pos ⟨rfl, by simp⟩]
  simp
theorem tkS_app (a t : List UInt8) : tkS a.length (a ++ t, 0) = (t, 0) := by
  unfold tkS
  rw [if_pos ⟨rfl, by simp⟩]
  simp
theorem tkV_app' {k : Nat} {a : List UInt8} (t : List UInt8) (h : a.length = k) : tkV k (a ++ t, 0) = a := by subst h; exact tkV_app _ _
theorem tkS_app' {k : Nat} {a : List UInt8} (t : List UInt8) (h : a.length = k) : tkS k (a ++ t, 0) = (t, 0) := by subst h; exact tkS_app _ _
theorem hd_cons (a : UInt8) (t : List UInt8) : hd 1 (a :: t, 0) = a.toNat := by
  unfold hd
  rw [show (a :: t : List UInt8) = [a] ++ t from rfl, tkV_app' (k := 1) (a := [a]) t rfl]
  rfl
theorem tkS_cons (a : UInt8) (t : List UInt8) : tkS 1 (a :: t, 0) = (t, 0) := tkS_app' (a := [a]) t rfl
theorem tk_ok {k : Nat} {s : S} (h : (tkS k s).2 = 0) : s.2 = 0 ∧ (tkV k s).length = k ∧ s.1 = tkV k s ++ (tkS k s).1 := by
  have h1 := tkS_ok h
  refine ⟨h1.1, tkV_len _ _, ?_⟩
  unfold tkV tkS
  rw [if_pos h1, if_pos h1]
  exact (List.take_append_drop _ _).symm
theorem wt_fst (p : Bool) (s : S) : (wt p s).1 = s.1 := by
  unfold wt failS
  split
  · rfl
  · split <;> rfl
theorem wt_true {p : Bool} (h : p = true) (s : S) : wt p s = s := by subst h; rfl

/-- runs that are right are read -/
theorem runsL_enc {W : Nat} (hW : W ≤ 64) : ∀ (rs : List (Nat × T)) (row last t : List UInt8), Unl rs → row.length + 3 * (flat rs).length ≤ 3 * W → (∀ n p rs', rs = (n, p) :: rs' → three p ≠ last) →
    runsL W rs.length row last (enc rs ++ t, 0) = (row ++ bsOf (flat rs), (t, 0)) := by
  intro rs
  induction rs with
  | nil => intro row last t _ _ _; simp [runsL, flat, bsOf, enc]
  | cons x rs ih =>
    obtain ⟨n, p⟩ := x
    intro row last t hu hl hlast
    obtain ⟨h1, h2, h3⟩ := hu
    simp only [flat, List.length_append, List.length_replicate] at hl
    have hn : (UInt8.ofNat (n - 1)).toNat = n - 1 := ofNat_toNat (by omega)
    have e : enc ((n, p) :: rs) ++ t = (UInt8.ofNat (n - 1) :: three p) ++ (enc rs ++ t) := by simp [enc, three]
    have ev : tkV 4 (enc ((n, p) :: rs) ++ t, 0) = UInt8.ofNat (n - 1) :: three p := by rw [e]; exact tkV_app' _ rfl
    have es : tkS 4 (enc ((n, p) :: rs) ++ t, 0) = (enc rs ++ t, 0) := by rw [e]; exact tkS_app' _ rfl
    have hok : runOk W row last (UInt8.ofNat (n - 1) :: three p) = true := by
      unfold runOk
      simp only [List.getD_cons_zero, hn, List.drop_succ_cons, List.drop_zero, Bool.and_eq_true, decide_eq_true_eq]
      exact ⟨by omega, hlast _ _ _ rfl⟩
    rw [List.length_cons, runsL, if_pos rfl]
    simp only [ev, es, hok, wt_true, if_true, List.getD_cons_zero, hn, List.drop_succ_cons, List.drop_zero]
    rw [ih _ _ _ h3 (by rw [List.length_append, rep_len]; simp only [three, List.length_cons, List.length_nil]; omega) (fun m q rs' e => fun e' => h2 m q rs' e (three_inj e').symm)]
    rw [flat, bsOf_append, bsOf_rep, List.append_assoc, show n - 1 + 1 = n by omega]
/-- what is read as runs is just these runs' bytes -/
theorem runsL_inv (W : Nat) : ∀ (n : Nat) (row last : List UInt8) (s : S) (r : List UInt8) (s' : S), runsL W n row last s = (r, s') → s'.2 = 0 →
    ∃ rs, rs.length = n ∧ s.2 = 0 ∧ s.1 = enc rs ++ s'.1 ∧ r = row ++ bsOf (flat rs) ∧ Unl rs ∧ (∀ n p rs', rs = (n, p) :: rs' → three p ≠ last) ∧ ∀ x ∈ rs, x.1 ≤ 256 := by
  intro n
  induction n with
  | zero =>
    intro row last s r s' h h0
    simp only [runsL, Prod.mk.injEq] at h
    obtain ⟨rfl, rfl⟩ := h
    exact ⟨[], rfl, h0, by simp [enc], by simp [flat, bsOf], trivial, fun _ _ _ e => by (cases e), fun x hx => by cases hx⟩
  | succ n ih =>
    intro row last s r s' h h0
    rw [runsL] at h
    by_cases he : s.2 = 0
    · rw [if_pos he] at h
      simp only [] at h
      obtain ⟨rs, i1, i2, i3, i4, i5, i6, i7⟩ := ih _ _ _ _ _ h h0
      rw [if_pos i2] at i4
      have k1 := wt_ok i2
      have k2 := tk_ok k1.2
      rw [wt_fst] at i3
      obtain ⟨x, hx⟩ : ∃ x, tkV 4 s = x := ⟨_, rfl⟩
      rw [hx] at i4 i6 k1 k2
      obtain ⟨k2a, k2b, k2c⟩ := k2
      match x, k2b with
      | [b, p, q, c], _ =>
        simp only [List.getD_cons_zero, List.drop_succ_cons, List.drop_zero] at i3 i4 i6 k1
        have hb := b.toNat_lt
        refine ⟨(b.toNat + 1, (p, q, c)) :: rs, by simp [i1], he, ?_, ?_, ⟨by omega, fun m q' rs' e => fun e' => i6 m q' rs' e (by rw [← e']; rfl), i5⟩, fun m p' rs' e => ?_, ?_⟩
        · rw [k2c, i3]; simp [enc]
        · rw [i4, flat, bsOf_append, bsOf_rep, List.append_assoc]; rfl
        · cases e
          have := k1.1
          simp only [runOk, Bool.and_eq_true, decide_eq_true_eq] at this
          exact this.2
        · intro y hy
          rcases List.mem_cons.mp hy with rfl | hy
          · show b.toNat + 1 ≤ 256; omega
          · exact i7 y hy
    · rw [if_neg he] at h
      simp only [Prod.mk.injEq] at h
      obtain ⟨rfl, rfl⟩ := h
      exact absurd h0 he

/-! ### one row -/
theorem runsB_len' (r : List UInt8) (W : Nat) : (rle (pxs r 0 W)).length ≤ W := by have := rle_len (pxs r 0 W); rw [pxs_len] at this; exact this
theorem rowL_enc {W : Nat} (hW : 1 ≤ W ∧ W ≤ 64) (r t : List UInt8) (hr : r.length = 3 * W) : rowL W (encRow W r ++ t, 0) = (r, (t, 0)) := by
  unfold encRow
  by_cases hc : (runsB r W).length < 1 + 3 * W
  · rw [if_pos hc]
    have hm := runsB_len' r W
    have hu := unl_rle (pxs r 0 W)
    have hf := flat_rle (pxs r 0 W)
    rw [runsB_len] at hc
    unfold runsB
    obtain ⟨rs, hrs⟩ : ∃ rs, rle (pxs r 0 W) = rs := ⟨_, rfl⟩
    rw [hrs] at hc hm hu hf ⊢
    have hn : (UInt8.ofNat rs.length).toNat = rs.length := ofNat_toNat (by omega)
    have hfl : (flat rs).length = W := by rw [hf, pxs_len]
    have h0 : 0 < rs.length := by
      cases rs with
      | nil => simp [flat] at hfl; omega
      | cons _ _ => simp
    have hrow : bsOf (flat rs) = r := by rw [hf]; exact bsOf_pxs W r hr
    unfold rowL
    simp only [List.cons_append, hd_cons, tkS_cons]
    rw [wt_true (by decide), if_pos rfl, if_neg (by decide)]
    unfold rowedL
    simp only [hd_cons, tkS_cons, hn]
    rw [wt_true (by simp; omega)]
    rw [runsL_enc hW.2 rs [] [] t hu (by simp [hfl]) (fun n p rs' e => by simp [three])]
    simp only [List.nil_append, hrow, hr, decide_true, wt_true]
  · rw [if_neg hc]
    unfold rowL
    simp only [List.cons_append, hd_cons, tkS_cons]
    rw [wt_true (by decide), if_pos rfl, if_pos (by decide)]
    unfold plainL
    rw [tkV_app' t hr, tkS_app' t hr, wt_true (by simp; omega)]
theorem rowL_inv {W : Nat} (hW : 1 ≤ W ∧ W ≤ 64) {s s' : S} {r : List UInt8} (h : rowL W s = (r, s')) (h0 : s'.2 = 0) : s.2 = 0 ∧ r.length = 3 * W ∧ s.1 = encRow W r ++ s'.1 := by
  unfold rowL at h
  simp only [] at h
  by_cases he : (wt (decide (hd 1 s ≤ 1)) (tkS 1 s)).2 = 0
  · rw [if_pos he] at h
    have k1 := wt_ok he
    have k2 := tk_ok k1.2
    have hle : hd 1 s ≤ 1 := by simpa using k1.1
    rw [wt_true k1.1] at h
    obtain ⟨x, hx⟩ : ∃ x, tkV 1 s = x := ⟨_, rfl⟩
    have hh : hd 1 s = (x.getD 0 0).toNat := by rw [← hx]; rfl
    rw [hx] at k2
    obtain ⟨k2a, k2b, k2c⟩ := k2
    match x, k2b with
    | [b], _ =>
      simp only [List.getD_cons_zero] at hh
      by_cases hz : hd 1 s = 0
      · rw [if_pos hz] at h
        unfold plainL at h
        simp only [Prod.mk.injEq] at h
        obtain ⟨rfl, rfl⟩ := h
        have j1 := wt_ok h0
        have j2 := tk_ok j1.2
        refine ⟨k2a, tkV_len _ _, ?_⟩
        rw [wt_fst]
        have hb : b = 0 := by apply UInt8.toNat_inj.mp; rw [← hh, hz]; rfl
        have j3 := j1.1
        simp only [decide_eq_true_eq] at j3
        unfold encRow
        rw [if_neg (by omega), k2c, hb, List.cons_append, List.cons_append, ← j2.2.2]
        rfl
      · rw [if_neg hz] at h
        have hb : b = 1 := by apply UInt8.toNat_inj.mp; rw [← hh]; show hd 1 s = 1; omega
        unfold rowedL at h
        simp only [Prod.mk.injEq] at h
        obtain ⟨hr, hs⟩ := h
        rw [← hs] at h0
        have j1 := wt_ok h0
        obtain ⟨q, hq⟩ : ∃ q, tkS 1 s = q := ⟨_, rfl⟩
        rw [hq] at hr hs j1 k2c
        obtain ⟨m, hm⟩ : ∃ m, hd 1 q = m := ⟨_, rfl⟩
        rw [hm] at hr hs j1
        obtain ⟨rs, i1, i2, i3, i4, i5, i6, i7⟩ := runsL_inv W _ _ _ _ _ _ rfl j1.2
        have g1 := wt_ok i2
        have g2 := tk_ok g1.2
        rw [wt_fst] at i3
        rw [hr] at i4 j1
        simp only [List.nil_append] at i4
        have hl : r.length = 3 * W := by have := j1.1; simpa using this
        refine ⟨k2a, hl, ?_⟩
        have hg := g1.1
        simp only [Bool.and_eq_true, decide_eq_true_eq] at hg
        have hfl : (flat rs).length = W := by have := bsOf_len (flat rs); rw [← i4, hl] at this; omega
        have hrle : rle (pxs r 0 W) = rs := by
          have := pxs_bsOf (flat rs) []
          rw [List.append_nil, ← i4, hfl] at this
          rw [this, rle_flat rs i5]
        have hB : runsB r W = 1 :: UInt8.ofNat rs.length :: enc rs := by unfold runsB; rw [hrle]
        obtain ⟨y, hy⟩ : ∃ y, tkV 1 q = y := ⟨_, rfl⟩
        have hh2 : m = (y.getD 0 0).toNat := by rw [← hm, ← hy]; rfl
        rw [hy] at g2
        obtain ⟨g2a, g2b, g2c⟩ := g2
        match y, g2b with
        | [d], _ =>
          simp only [List.getD_cons_zero] at hh2
          have hd' : d = UInt8.ofNat rs.length := by
            apply UInt8.toNat_inj.mp
            rw [ofNat_toNat (by have := d.toNat_lt; omega), ← hh2, i1]
          unfold encRow
          rw [if_pos (by rw [runsB_len, hrle]; omega), hB, k2c, hb, g2c, hd', i3, ← hs, wt_fst]
          simp
  · rw [if_neg he] at h
    simp only [Prod.mk.injEq] at h
    obtain ⟨_, rfl⟩ := h
    exact absurd h0 he
end Go.Proofs.Ytfmkdccpgkbnoaa.lf
