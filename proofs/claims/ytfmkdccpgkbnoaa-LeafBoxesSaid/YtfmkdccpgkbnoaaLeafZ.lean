/-
  Layer 39, plain: rows with few runs.
-/
import Derived.Test.YtfmkdccpgkbnoaaLeafT
import Derived.Test.YtfmkdccpgkbnoaaPut
import Derived.Test.YtfmkdccpgkbnoaaKnown
namespace Go.Proofs.Ytfmkdccpgkbnoaa.lf
set_option linter.unusedVariables false
set_option linter.unusedSimpArgs false
open Go.RowKit bs rg ik

def more (o : Option T) (p : T) : Nat := if o = some p then 0 else 1
theorem more_le (o : Option T) (p : T) : more o p ≤ 1 := by unfold more; split <;> omega
theorem rle_cons_len (p : T) (ps : List T) : (rle (p :: ps)).length = (rle ps).length + more ps.head? p := by
  cases ps with
  | nil => rfl
  | cons q qs =>
    obtain ⟨n, rs, h⟩ := rle_head q qs
    rw [rle, h]
    unfold more
    simp only [List.head?_cons, Option.some_inj]
    by_cases e : p = q
    · subst e; simp
    · rw [if_neg e, if_neg (fun h => e h.symm)]; simp
theorem rle_append_len (xs ys : List T) : (rle (xs ++ ys)).length ≤ (rle xs).length + (rle ys).length := by
  induction xs with
  | nil => simp [rle]
  | cons p xs ih =>
    rw [List.cons_append, rle_cons_len, rle_cons_len]
    cases xs with
    | nil =>
      have := more_le ys.head? p
      simp only [List.nil_append, rle, List.length_nil, List.head?_nil, more, reduceCtorEq, if_false] at this ⊢
      omega
    | cons q qs =>
      simp only [List.cons_append, List.head?_cons] at ih ⊢
      omega
theorem rle_rep (p : T) (n : Nat) : (rle (List.replicate n p)).length ≤ 1 := by
  cases n with
  | zero => simp [rle]
  | succ n =>
    have h := rle_flat [(n + 1, p)] ⟨by omega, (fun _ _ _ e => by cases e), trivial⟩
    simp only [flat, List.append_nil] at h
    rw [h]; simp
theorem pxs_same (l : List UInt8) (p : T) (k : Nat) : ∀ a, (∀ i, a ≤ i → i < a + k → px l i = p) → pxs l a k = List.replicate k p := by
  induction k with
  | zero => intro a _; rfl
  | succ k ih =>
    intro a h
    rw [pxs, h a (Nat.le_refl _) (by omega), ih (a + 1) (fun i h1 h2 => h i (by omega) (by omega)), List.replicate_succ]
theorem pxs_append (l : List UInt8) (j k : Nat) : ∀ a, pxs l a (j + k) = pxs l a j ++ pxs l (a + j) k := by
  induction j with
  | zero => intro a; simp [pxs]
  | succ j ih =>
    intro a
    rw [show j + 1 + k = (j + k) + 1 by omega, pxs, ih (a + 1), pxs, List.cons_append, show a + 1 + j = a + (j + 1) by omega]
theorem listB_at (N : Nat) (B : Nat → Int) (j : Nat) (h : j < N) (hb : 0 ≤ B j ∧ B j ≤ 255) : (listB N B).getD j 0 = UInt8.ofNat (B j).toNat := by
  have hl : j < (listB N B).length := by rw [listB_len]; exact h
  rw [List.getD, List.getElem?_eq_getElem hl]
  apply UInt8.toNat_inj.mp
  have := listB_get N B j hl hb
  simp only [Option.getD_some]
  rw [← Int.ofNat_inj, this, u8_of _ hb.1 hb.2]
theorem rowOf_at (W : Nat) (l : List UInt8) (j i : Nat) (hi : i < 3 * W) : (rowOf W l j).getD i 0 = l.getD (3 * W * j + i) 0 := by
  unfold rowOf
  rw [List.getD, List.getElem?_take, if_pos hi, List.getElem?_drop, List.getD]
theorem px_row (W : Nat) (l : List UInt8) (j i : Nat) (hi : i < W) : px (rowOf W l j) i = (l.getD (3 * W * j + 3 * i) 0, l.getD (3 * W * j + (3 * i + 1)) 0, l.getD (3 * W * j + (3 * i + 2)) 0) := by
  unfold px
  rw [rowOf_at W l j _ (by omega), rowOf_at W l j _ (by omega), rowOf_at W l j _ (by omega)]
/-- a page whose pixels in a row are of one colour within (a, b) and of another outside -/
theorem row_runs (W : Nat) (r : List UInt8) (p q : T) (a b : Nat) (hab : a ≤ b) (hb : b ≤ W) (h : ∀ i, i < W → px r i = if a ≤ i ∧ i < b then p else q) : (rle (pxs r 0 W)).length ≤ 3 := by
  have e : W = a + ((b - a) + (W - b)) := by omega
  have h1 : pxs r 0 W = List.replicate a q ++ (List.replicate (b - a) p ++ List.replicate (W - b) q) := by
    conv => lhs; rw [e]
    rw [pxs_append, pxs_append, pxs_same r q a 0 (fun i _ h2 => by rw [h i (by omega), if_neg (by omega)]), pxs_same r p (b - a) (0 + a) (fun i _ h2 => by rw [h i (by omega), if_pos (by omega)]), pxs_same r q (W - b) (0 + a + (b - a)) (fun i _ h2 => by rw [h i (by omega), if_neg (by omega)])]
  rw [h1]
  have c1 := rle_append_len (List.replicate a q) (List.replicate (b - a) p ++ List.replicate (W - b) q)
  have c2 := rle_append_len (List.replicate (b - a) p) (List.replicate (W - b) q)
  have d1 := rle_rep q a
  have d2 := rle_rep p (b - a)
  have d3 := rle_rep q (W - b)
  omega
theorem row_one (W : Nat) (r : List UInt8) (p : T) (h : ∀ i, i < W → px r i = p) : (rle (pxs r 0 W)).length ≤ 1 := by
  rw [pxs_same r p W 0 (fun i _ h2 => h i (by omega))]
  exact rle_rep p W
/-- a page of one colour -/
theorem flat_len_is {W H N : Nat} (hW : 1 ≤ W ∧ W ≤ 64) (hH : 1 ≤ H ∧ H ≤ 64) (hN : N = 3 * (W * H)) (B : Nat → Int) (F : Nat → Int) (hB : ∀ j, j < N → B j = F (j % 3)) (hF : ∀ t, t < 3 → 0 ≤ F t ∧ F t ≤ 255) : (putL W H (listB N B)).length = 4 + H * min 6 (1 + 3 * W) := by
  have hN3 : N = 3 * W * H := by rw [hN, three_mul]
  have hl : (listB N B).length = 3 * W * H := by rw [listB_len, hN3]
  have h1 := encs_ge hW.1 (listB N B) H 0 (by rw [Nat.zero_add, hl]; exact Nat.le_refl _)
  have h2 := encs_le (W := W) (m := 1) (listB N B) H 0 (by rw [Nat.zero_add, hl]; exact Nat.le_refl _) (fun i _ hi => by
    refine row_one W _ (UInt8.ofNat (F 0).toNat, UInt8.ofNat (F 1).toNat, UInt8.ofNat (F 2).toNat) fun j hj => ?_
    have hin : 3 * W * i + 3 * W ≤ N := by
      have : 3 * W * (i + 1) ≤ 3 * W * H := Nat.mul_le_mul_left _ (by omega)
      rw [← hN3, mul_s] at this
      exact this
    have key : ∀ t, t < 3 → (listB N B).getD (3 * W * i + (3 * j + t)) 0 = UInt8.ofNat (F t).toNat := fun t ht => by
      have e : (3 * W * i + (3 * j + t)) % 3 = t := by rw [Nat.mul_assoc]; omega
      have hb := hB (3 * W * i + (3 * j + t)) (by omega)
      rw [e] at hb
      rw [listB_at N B _ (by omega) (by rw [hb]; exact hF t ht), hb]
    have k0 := key 0 (by omega)
    rw [Nat.add_zero] at k0
    rw [px_row W _ i j hj, k0, key 1 (by omega), key 2 (by omega)])
  unfold putL headL
  rw [List.length_append]
  have e6 : min (2 + 4 * 1) (1 + 3 * W) = min 6 (1 + 3 * W) := rfl
  rw [e6] at h2
  simp only [List.length_cons, List.length_nil]
  omega
theorem put_one (W : Nat) (x y z a : Int) (hx : 0 ≤ x ∧ x ≤ 255) (hy : 0 ≤ y ∧ y ≤ 255) (hz : 0 ≤ z ∧ z ≤ 255) (ha : 0 ≤ a ∧ a ≤ 255) :
    ∃ F : Nat → Int, (∀ j, putB W (fun _ _ => true) x y z a (fun _ => 255) j = F (j % 3)) ∧ ∀ t, t < 3 → 0 ≤ F t ∧ F t ≤ 255 := by
  refine ⟨fun t => blend 255 (chan x y z t) a, fun j => ?_, fun t ht => ?_⟩
  · unfold putB
    rw [if_pos rfl]
  · exact blend_bd _ _ _ ⟨by decide, by decide⟩ (by unfold chan; (repeat' split) <;> assumption) ha
end Go.Proofs.Ytfmkdccpgkbnoaa.lf
