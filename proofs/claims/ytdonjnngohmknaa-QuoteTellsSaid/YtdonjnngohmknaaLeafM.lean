/-
  Layer 39, plain: pixels of a row, their runs (rle), the bytes of a row; the reader as a state of bytes that are left and an error.
-/
import Derived.Test.YtdonjnngohmknaaMem
namespace Go.Proofs.Ytdonjnngohmknaa.lf
set_option linter.unusedVariables false
set_option linter.unusedSimpArgs false
open Go.RowKit bs

abbrev T := UInt8 × UInt8 × UInt8
/-- the pixel at place j of a row of bytes -/
def px (l : List UInt8) (j : Nat) : T := (l.getD (3 * j) 0, l.getD (3 * j + 1) 0, l.getD (3 * j + 2) 0)
def three (p : T) : List UInt8 := [p.1, p.2.1, p.2.2]
/-- pixels a .. a + k - 1 -/
def pxs (l : List UInt8) (a : Nat) : Nat → List T
  | 0 => []
  | k + 1 => px l a :: pxs l (a + 1) k
/-- runs of like things -/
def rle : List T → List (Nat × T)
  | [] => []
  | p :: ps => match rle ps with
    | [] => [(1, p)]
    | (n, q) :: rs => if p = q then (n + 1, q) :: rs else (1, p) :: (n, q) :: rs
def enc : List (Nat × T) → List UInt8
  | [] => []
  | (n, p) :: rs => UInt8.ofNat (n - 1) :: p.1 :: p.2.1 :: p.2.2 :: enc rs
theorem enc_append (a b : List (Nat × T)) : enc (a ++ b) = enc a ++ enc b := by
  induction a with
  | nil => rfl
  | cons x r ih => obtain ⟨n, p⟩ := x; simp [enc, ih]
theorem enc_len (a : List (Nat × T)) : (enc a).length = 4 * a.length := by
  induction a with
  | nil => rfl
  | cons x r ih => obtain ⟨n, p⟩ := x; simp [enc, ih]; omega
theorem rle_head (p : T) (ps : List T) : ∃ n rs, rle (p :: ps) = (n + 1, p) :: rs := by
  unfold rle
  split
  · exact ⟨0, [], rfl⟩
  · next n q rs h =>
    split
    · next e => exact ⟨n, rs, by rw [e]⟩
    · exact ⟨0, _, rfl⟩
/-- a run of k + 1 like pixels, and another behind it (or none) -/
theorem rle_run (p : T) (k : Nat) (ps : List T) (h : ∀ q, ps.head? = some q → p ≠ q) : rle (List.replicate (k + 1) p ++ ps) = (k + 1, p) :: rle ps := by
  induction k with
  | zero =>
    show rle (p :: ps) = _
    cases ps with
    | nil => rfl
    | cons q qs =>
      obtain ⟨n, rs, e⟩ := rle_head q qs
      have hne := h q rfl
      rw [rle, e]
      simp [hne]
  | succ k ih =>
    rw [List.replicate_succ, List.cons_append, rle, ih]
    simp
theorem pxs_split (l : List UInt8) (a k m : Nat) : pxs l a (k + m) = pxs l a k ++ pxs l (a + k) m := by
  induction k generalizing a with
  | zero => simp [pxs]
  | succ k ih =>
    rw [Nat.succ_add, pxs, ih, pxs, show a + 1 + k = a + (k + 1) by omega]; rfl
theorem pxs_like (l : List UInt8) (a k : Nat) (p : T) (h : ∀ j, a ≤ j → j < a + k → px l j = p) : pxs l a k = List.replicate k p := by
  induction k generalizing a with
  | zero => rfl
  | succ k ih => rw [pxs, h a (Nat.le_refl _) (by omega), ih (a + 1) (fun j h1 h2 => h j (by omega) (by omega)), List.replicate_succ]
theorem pxs_len (l : List UInt8) (a k : Nat) : (pxs l a k).length = k := by
  induction k generalizing a with
  | zero => rfl
  | succ k ih => simp [pxs, ih]
theorem rle_len (ps : List T) : (rle ps).length ≤ ps.length := by
  induction ps with
  | nil => exact Nat.le_refl _
  | cons p ps ih =>
    unfold rle
    split
    · simp
    · next n q rs h =>
      rw [h] at ih
      split <;> simp at ih ⊢ <;> omega
/-- one round: from place a the run goes to b -/
theorem rle_round (l : List UInt8) (a b m : Nat) (hab : a < b) (hb : b ≤ m) (hl : ∀ j, a ≤ j → j < b → px l j = px l a) (hn : b < m → px l b ≠ px l a) :
    rle (pxs l a (m - a)) = (b - a, px l a) :: rle (pxs l b (m - b)) := by
  obtain ⟨k, rfl⟩ : ∃ k, b = a + (k + 1) := ⟨b - a - 1, by omega⟩
  have e : m - a = (k + 1) + (m - (a + (k + 1))) := by omega
  rw [e, pxs_split, pxs_like l a (k + 1) (px l a) (fun j h1 h2 => hl j h1 (by omega)), rle_run]
  · rw [show a + (k + 1) - a = k + 1 by omega]
  · intro q hq
    rcases Nat.lt_or_ge (a + (k + 1)) m with h | h
    · obtain ⟨d, hd⟩ : ∃ d, m - (a + (k + 1)) = d + 1 := ⟨m - (a + (k + 1)) - 1, by omega⟩
      rw [hd, pxs] at hq
      simp at hq
      subst hq
      exact fun e => hn h e.symm
    · rw [show m - (a + (k + 1)) = 0 by omega, pxs] at hq
      cases hq
/-- the bytes that runs gives: a row of m pixels -/
def runsB (l : List UInt8) (m : Nat) : List UInt8 := 1 :: UInt8.ofNat (rle (pxs l 0 m)).length :: enc (rle (pxs l 0 m))
theorem runsB_len (l : List UInt8) (m : Nat) : (runsB l m).length = 2 + 4 * (rle (pxs l 0 m)).length := by simp [runsB, enc_len]; omega

/-! ### bytes that a function makes itself -/
def vals (l : List UInt8) : List Value := l.map fun x => .int .u8 (x.toNat : Int)
theorem vals_len (l : List UInt8) : (vals l).length = l.length := by simp [vals]
theorem vals_append (a b : List UInt8) : vals (a ++ b) = vals a ++ vals b := by simp [vals]
theorem vals_one (l : List UInt8) : ∀ u ∈ vals l, u.oneCell' = true := by
  intro u hu
  simp only [vals, List.mem_map] at hu
  obtain ⟨x, _, rfl⟩ := hu
  rfl
def OwnB (w : World) (base : Nat) (v : Value) (l : List UInt8) : Prop := w.ownsRow base 5 1 v l.length (vals l)
theorem OwnB.bytes {w : World} {base : Nat} {v : Value} {l : List UInt8} (h : OwnB w base v l) : ∃ A c, v = .slice A l.length c ∧ Bytes w A l.length c l ∧ ∀ k, v.ownBlock = some k → base ≤ k ∧ k < w.heap.size := by
  have hlt := World.ownsRow.lt h
  unfold OwnB at h
  rcases id h.2 with ⟨rfl, h0⟩ | ⟨g, cap, cur, rfl, hb, hg, hc, _⟩
  · have : l = [] := List.eq_nil_of_length_eq_zero h0
    subst this
    exact ⟨none, 0, rfl, Bytes.nil_, hlt⟩
  · refine ⟨_, _, rfl, ⟨rfl, hc, fun _ => ⟨g, 0, rfl, (hlt g rfl).2, fun j hj => ?_⟩⟩, hlt⟩
    have := World.ownsRow.cells h (g := g) rfl j (.int .u8 (l[j].toNat : Int)) (by simp [vals, List.getElem?_map, List.getElem?_eq_getElem hj])
    rw [Go.WideShapes.add_plain] at this
    exact this
theorem Bytes.reads {w : World} {A : Option Addr} {n c : Nat} {l : List UInt8} (h : Bytes w A n c l) : Reads w w.heap.size 1 A n (vals l) := by
  obtain ⟨h1, h2, h3⟩ := h
  refine ⟨by rw [vals_len]; omega, fun hn => ?_⟩
  obtain ⟨b, o, e, hlt, hc⟩ := h3 hn
  refine ⟨⟨b, o, none⟩, e, hlt, fun j u hu => ?_⟩
  rw [Go.WideShapes.add_plain]
  have hj : j < l.length := by
    rcases Nat.lt_or_ge j l.length with h | h
    · exact h
    · rw [List.getElem?_eq_none (by simpa [vals] using h)] at hu; cases hu
  rw [hc j hj]
  simpa [vals, List.getElem?_map, List.getElem?_eq_getElem hj] using hu
theorem Bytes.cut {w : World} {A : Option Addr} {n c : Nat} {l : List UInt8} (h : Bytes w A n c l) (i k : Nat) (hi : i ≤ k) (hk : k ≤ n) (b o : Nat) (hA : A = some ⟨b, o, none⟩) : Bytes w (some ⟨b, o + i, none⟩) (k - i) (c - i) ((l.drop i).take (k - i)) := by
  obtain ⟨h1, h2, h3⟩ := h
  refine ⟨by simp; omega, by omega, fun hn => ?_⟩
  obtain ⟨b', o', e, hlt, hc⟩ := h3 (by omega)
  rw [hA] at e
  cases e
  refine ⟨b, o + i, rfl, hlt, fun j hj => ?_⟩
  have hj' : j < k - i := by simp at hj; omega
  rw [Nat.add_assoc, hc (i + j) (by omega)]
  simp
/-- the bytes as a string -/
theorem Bytes.str {w : World} {b o n c : Nat} {l : List UInt8} (h : Bytes w (some ⟨b, o, none⟩) n c l) : (convert 31 9 (.slice (some ⟨b, o, none⟩) n c)).run Try.prog w = .ok (.string ⟨l.toArray⟩) w := by
  obtain ⟨h1, h2, h3⟩ := h
  have := run_convert_bytes_back (P := Try.prog) w 31 9 5 ⟨b, o, none⟩ c l Try.underlying31 Try.underlying5 Try.underlying9 (fun j hj => by
    obtain ⟨b', o', e, hlt, hc⟩ := h3 (by omega)
    cases e
    rw [Go.WideShapes.add_plain]
    exact hc j hj)
  rw [h1] at this
  exact this
theorem three_take {l : List UInt8} {j : Nat} (h : 3 * j + 3 ≤ l.length) : (l.drop (3 * j)).take 3 = three (px l j) := by
  have e : ∀ k, 3 * j + k < l.length → (l.drop (3 * j))[k]? = some (l.getD (3 * j + k) 0) := fun k hk => by
    rw [List.getElem?_drop, List.getElem?_eq_getElem hk]
    simp [List.getD, List.getElem?_eq_getElem hk]
  have hl : ((l.drop (3 * j)).take 3).length = 3 := by simp; omega
  refine List.ext_getElem? fun k => ?_
  rw [List.getElem?_take]
  rcases (show k = 0 ∨ k = 1 ∨ k = 2 ∨ 3 ≤ k by omega) with rfl | rfl | rfl | hk
  · simp only [show (0 : Nat) < 3 by omega, if_true, e 0 (by omega)]; rfl
  · simp only [show (1 : Nat) < 3 by omega, if_true, e 1 (by omega)]; rfl
  · simp only [show (2 : Nat) < 3 by omega, if_true, e 2 (by omega)]; rfl
  · rw [if_neg (by omega), List.getElem?_eq_none (by simp [three]; omega)]
theorem three_inj {p q : T} (h : three p = three q) : p = q := by
  obtain ⟨a, b, c⟩ := p
  obtain ⟨d, e, f⟩ := q
  simp only [three, List.cons.injEq, and_true] at h
  obtain ⟨rfl, rfl, rfl⟩ := h
  rfl
end Go.Proofs.Ytdonjnngohmknaa.lf
