/-
  Layer 37: Paint's worlds: what the loops keep.
-/
import Derived.Test.YtegpjjkbbdfggaaBd
import Derived.Test.YtegpjjkbbdfggaaUnlike
namespace Go.Proofs.Ytegpjjkbbdfggaa.im
set_option linter.unusedVariables false
set_option linter.unusedSimpArgs false
open Go.RowKit bs rg

/-- a page's bytes behind Paint, up to pixel p -/
def pntB (w : Nat) (R : Nat → Nat → Bool) (S : Nat → Nat → Int) (G : Int → Int) (Y : Nat → Int) (p j : Nat) : Int :=
  if j / 3 < p ∧ R (j / 3 / w) (j / 3 % w) = true ∧ 0 ≤ S (j / 3 / w) (j / 3 % w) then G (S (j / 3 / w) (j / 3 % w)) else Y j
/-- a page's bytes behind Paint -/
def paintB (w : Nat) (R : Nat → Nat → Bool) (S : Nat → Nat → Int) (G : Int → Int) (Y : Nat → Int) (j : Nat) : Int :=
  if R (j / 3 / w) (j / 3 % w) = true ∧ 0 ≤ S (j / 3 / w) (j / 3 % w) then G (S (j / 3 / w) (j / 3 % w)) else Y j
theorem pntB_zero (w : Nat) (R : Nat → Nat → Bool) (S : Nat → Nat → Int) (G : Int → Int) (Y : Nat → Int) (j : Nat) : Y j = pntB w R S G Y 0 j := by
  unfold pntB; rw [if_neg (by omega)]
theorem pntB_skip (w : Nat) (R : Nat → Nat → Bool) (S : Nat → Nat → Int) (G : Int → Int) (Y : Nat → Int) (j i : Nat) (hi : i < w) (h : R j i = false ∨ S j i < 0) (t : Nat) : pntB w R S G Y (j * w + i) t = pntB w R S G Y (j * w + i + 1) t := by
  unfold pntB
  by_cases e : t / 3 = j * w + i
  · obtain ⟨e1, e2⟩ := pix_of (j := j) hi
    rw [e, e1, e2]
    rcases h with h | h
    · simp [h]
    · rw [if_neg (by omega), if_neg (by omega)]
  · have : t / 3 < j * w + i + 1 ↔ t / 3 < j * w + i := by omega
    simp only [this]
theorem pntB_step (w : Nat) (R : Nat → Nat → Bool) (S : Nat → Nat → Int) (G : Int → Int) (Y : Nat → Int) (j i : Nat) (hi : i < w) (h : R j i = true) (h0 : 0 ≤ S j i) (p t : Nat) (hp : 3 * (j * w + i) = p) :
    (if t = p + 2 then G (S j i) else if t = p + 1 then G (S j i) else if t = p then G (S j i) else pntB w R S G Y (j * w + i) t) = pntB w R S G Y (j * w + i + 1) t := by
  by_cases e : t / 3 = j * w + i
  · obtain ⟨e1, e2⟩ := pix_of (j := j) hi
    have : pntB w R S G Y (j * w + i + 1) t = G (S j i) := by
      unfold pntB
      rw [e, e1, e2, if_pos ⟨by omega, h, h0⟩]
    rw [this]
    (repeat' split) <;> first | rfl | omega
  · rw [if_neg (by omega), if_neg (by omega), if_neg (by omega)]
    unfold pntB
    have : t / 3 < j * w + i + 1 ↔ t / 3 < j * w + i := by omega
    simp only [this]
theorem pntB_all (w h : Nat) (R : Nat → Nat → Bool) (S : Nat → Nat → Int) (G : Int → Int) (Y : Nat → Int) (t : Nat) (ht : t < 3 * (w * h)) : pntB w R S G Y (h * w) t = paintB w R S G Y t := by
  unfold pntB paintB
  have h1 : t / 3 < h * w := by rw [Nat.mul_comm h w]; omega
  simp only [h1, true_and]
/-- the blocks that the loops read and write -/
def PtR (w0 : World) (g n pB iB vB zB : Nat) (pv iv vv zv : Array Value) (Y : Nat → Int) (wr : World) : Prop :=
  ∃ cs, Blk wr g 5 cs ∧ Holds cs n Y ∧ Blk wr pB 46 pv ∧ Blk wr iB 23 iv ∧ Blk wr vB 92 vv ∧ Blk wr zB 46 zv ∧
    w0.heap.size ≤ g ∧ pB ≠ g ∧ iB ≠ g ∧ vB ≠ g ∧ zB ≠ g ∧ Below w0.heap.size w0 wr
section
variable {w0 wr w' : World} {g n pB iB vB zB : Nat} {pv iv vv zv : Array Value} {Y Z : Nat → Int}
theorem PtR.below (x : PtR w0 g n pB iB vB zB pv iv vv zv Y wr) (hb : Below wr.heap.size wr w') : PtR w0 g n pB iB vB zB pv iv vv zv Y w' := by
  obtain ⟨cs, h1, h2, h3, h4, h5, h6, g1, g2, g3, g4, g5, h7⟩ := x
  exact ⟨cs, h1.below hb h1.lt, h2, h3.below hb h3.lt, h4.below hb h4.lt, h5.below hb h5.lt, h6.below hb h6.lt, g1, g2, g3, g4, g5, btrans h7 hb⟩
theorem PtR.ext (x : PtR w0 g n pB iB vB zB pv iv vv zv Y wr) (e : ∀ j, j < n → Y j = Z j) : PtR w0 g n pB iB vB zB pv iv vv zv Z wr := by
  obtain ⟨cs, h1, h2, h3⟩ := x
  exact ⟨cs, h1, h2.ext e, h3⟩
theorem PtR.put (x : PtR w0 g n pB iB vB zB pv iv vv zv Y wr) (k : Nat) (v : Int) (h0 : 0 ≤ v) (h1 : v ≤ 255) : PtR w0 g n pB iB vB zB pv iv vv zv (fun j => if j = k then v else Y j) (wr.setCell ⟨g, k, none⟩ (.int .u8 v)) := by
  obtain ⟨cs, h1', h2, h3, h4, h5, h6, g1, g2, g3, g4, g5, h7⟩ := x
  exact ⟨_, h1'.set_ k _, h2.put k v h0 h1, h3.far g2 _, h4.far g3 _, h5.far g4 _, h6.far g5 _, g1, g2, g3, g4, g5, bset h7 g1 _⟩
end
/-- what a walk over the region's pixels keeps -/
structure Pts (V : World) (g n pB iB vB : Nat) (pv iv vv : Array Value) (w h : Nat) (R : Nat → Nat → Bool) (S : Nat → Nat → Int) (G : Int → Int) (Rel : Nat → World → Prop) : Prop where
  keep : ∀ p w1 w2, Rel p w1 → Below w1.heap.size w1 w2 → Rel p w2
  skip : ∀ j i w1, j < h → i < w → (R j i = false ∨ S j i < 0) → Rel (j * w + i) w1 → Rel (j * w + i + 1) w1
  put : ∀ j i p w1, j < h → i < w → R j i = true → 0 ≤ S j i → 3 * (j * w + i) = p → Rel (j * w + i) w1 → Rel (j * w + i + 1) (((w1.setCell ⟨g, p, none⟩ (.int .u8 (G (S j i)))).setCell ⟨g, p + 1, none⟩ (.int .u8 (G (S j i)))).setCell ⟨g, p + 2, none⟩ (.int .u8 (G (S j i))))
  blocks : ∀ p wr, Rel p wr → Blk wr pB 46 pv ∧ Blk wr iB 23 iv ∧ Blk wr vB 92 vv ∧ Below V.heap.size V wr ∧ pB ≠ g ∧ V.heap.size ≤ g ∧ g < wr.heap.size
  cell : ∀ p wr j, Rel p wr → j < n → (∃ y, wr.cell? ⟨g, j, none⟩ = some (.int .u8 y)) ∧ wr.frozen? ⟨g, j, none⟩ = false
theorem pts_mk (V : World) (g n pB iB vB zB : Nat) (pv iv vv zv : Array Value) (w h : Nat) (R : Nat → Nat → Bool) (S : Nat → Nat → Int) (G : Int → Int) (Y : Nat → Int) (hG : ∀ j i, 0 ≤ S j i → 0 ≤ G (S j i) ∧ G (S j i) ≤ 255) :
    Pts V g n pB iB vB pv iv vv w h R S G (fun p => PtR V g n pB iB vB zB pv iv vv zv (pntB w R S G Y p)) := by
  refine ⟨fun p w1 w2 h hb => h.below hb, fun j i w1 hj hi h hr => hr.ext fun t _ => pntB_skip w R S G Y j i hi h t, fun j i p w1 hj hi h h0 hp hr => ?_, fun p wr h => ?_, fun p wr j h hj => ?_⟩
  · obtain ⟨b0, b1⟩ := hG j i h0
    exact (((hr.put p _ b0 b1).put (p + 1) _ b0 b1).put (p + 2) _ b0 b1).ext fun t _ => pntB_step w R S G Y j i hi h h0 p t hp
  · obtain ⟨cs, h1, h2, h3, h4, h5, h6, g1, g2, g3, g4, g5, h7⟩ := h
    exact ⟨h3, h4, h5, h7, g2, g1, h1.lt⟩
  · obtain ⟨cs, h1, h2, h3, h4, h5, h6, g1, g2, g3, g4, g5, h7⟩ := h
    exact ⟨⟨_, (h1.cell j).trans (h2.2 j hj).1⟩, h1.frozen j⟩
theorem Pts.skips {V : World} {g n pB iB vB : Nat} {pv iv vv : Array Value} {w h : Nat} {R : Nat → Nat → Bool} {S : Nat → Nat → Int} {G : Int → Int} {Rel : Nat → World → Prop} (x : Pts V g n pB iB vB pv iv vv w h R S G Rel)
    {k a b : Nat} {wr : World} (hk : k < h) (r : Rel (k * w + a) wr) (hab : a ≤ b) (hb : b ≤ w) (hR : ∀ i, a ≤ i → i < b → R k i = false) : Rel (k * w + b) wr := by
  obtain ⟨n, rfl⟩ := Nat.exists_eq_add_of_le hab
  clear hab
  induction n with
  | zero => exact r
  | succ n ih =>
    have h1 := ih (by omega) (fun i h1 h2 => hR i h1 (by omega))
    exact x.skip k (a + n) wr hk (by omega) (.inl (hR _ (by omega) (by omega))) h1
end Go.Proofs.Ytegpjjkbbdfggaa.im
