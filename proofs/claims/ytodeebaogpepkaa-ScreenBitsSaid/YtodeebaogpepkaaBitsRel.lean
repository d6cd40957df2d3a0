/-
  What a loop over a page's pixels holds, for Bits and for the reference's Bits.
-/
import Derived.Test.YtodeebaogpepkaaBitsNo
import Derived.BigRegion
import Derived.Deep.CutRange
namespace Go.Proofs.Ytodeebaogpepkaa.sc
set_option linter.unusedVariables false
set_option linter.unusedSimpArgs false
open Go.RowKit bs

/-- behind k rounds of Bits: block g holds the bits, block p the mask, the blocks of the page and of the result stand as they were made -/
def BRel (W0 : World) (g p q k V G : Nat) (f : Nat → Bool) (A : Option Addr) (n c : Nat) (bs : List UInt8) (wr : World) : Prop :=
  ∃ cs : Array Value, Blk wr g 5 cs ∧ cs.size = q ∧ (∀ j, j < k → cs[j]? = some (.int .u8 (if f j then 1 else 0))) ∧ (∀ j, k ≤ j → j < q → cs[j]? = some (.int .u8 0)) ∧
    Blk wr p 36 #[.int .i64 V, .int .i64 G, .slice (some ⟨g, 0, none⟩) q q] ∧ Blk wr W0.heap.size 34 #[.int .i64 V, .int .i64 G, .slice A n c] ∧
    Blk wr (W0.heap.size + 1) 36 #[.int .i64 0, .int .i64 0, .slice none 0 0] ∧ Bytes wr A n c bs ∧ Below W0.heap.size W0 wr ∧ W0.heap.size + 2 ≤ g ∧ W0.heap.size + 2 ≤ p ∧ g ≠ p
section
variable {W0 : World} {g p q k V G : Nat} {f : Nat → Bool} {A : Option Addr} {n c : Nat} {bs : List UInt8} {wr : World}
theorem BRel.below {w' : World} (h : BRel W0 g p q k V G f A n c bs wr) (hb : Below wr.heap.size wr w') : BRel W0 g p q k V G f A n c bs w' := by
  obtain ⟨cs, h1, h2, h3, h4, h5, h6, h7, h8, h9, h10, h11, h12⟩ := h
  exact ⟨cs, h1.below hb h1.lt, h2, h3, h4, h5.below hb h5.lt, h6.below hb h6.lt, h7.below hb h7.lt, h8.below hb, btrans h9 hb, h10, h11, h12⟩
theorem BRel.drew (h : BRel W0 g p q k V G f A n c bs wr) : BRel W0 g p q k V G f A n c bs wr.drew := h.below (by (repeat' (first | exact Below.refl _ _ | exact Below.refl _ _ | refine balloc ?_ _ | refine Below.drew ?_ | refine below_drewN ?_ _ | refine bset ?_ (by first | omega | (simp <;> omega)) _)))
theorem BRel.drewN (h : BRel W0 g p q k V G f A n c bs wr) (N : Nat) : BRel W0 g p q k V G f A n c bs (wr.drewN N) := h.below (by (repeat' (first | exact Below.refl _ _ | exact Below.refl _ _ | refine balloc ?_ _ | refine Below.drew ?_ | refine below_drewN ?_ _ | refine bset ?_ (by first | omega | (simp <;> omega)) _)))
theorem BRel.skip (h : BRel W0 g p q k V G f A n c bs wr) (hk : k < q) (hf : f k = false) : BRel W0 g p q (k + 1) V G f A n c bs wr := by
  obtain ⟨cs, h1, h2, h3, h4, hr⟩ := h
  refine ⟨cs, h1, h2, fun j hj => ?_, fun j h0 h1 => h4 j (by omega) h1, hr⟩
  by_cases hjk : j = k
  · subst hjk; rw [h4 j (Nat.le_refl _) hk, hf]; rfl
  · exact h3 j (by omega)
theorem BRel.put (h : BRel W0 g p q k V G f A n c bs wr) (hk : k < q) (hf : f k = true) (hA : ∀ a, A = some a → a.block < W0.heap.size) : BRel W0 g p q (k + 1) V G f A n c bs (wr.setCell ⟨g, k, none⟩ (.int .u8 1)) := by
  obtain ⟨cs, h1, h2, h3, h4, h5, h6, h7, h8, h9, h10, h11, h12⟩ := h
  refine ⟨_, h1.set_ k _, by simp [h2], fun j hj => ?_, fun j h0 h1 => ?_, h5.far (by show p ≠ g; omega) _, h6.far (by show _ ≠ g; omega) _, h7.far (by show _ ≠ g; omega) _, ?_, bset h9 (by show _ ≤ g; omega) _, h10, h11, h12⟩
  · rw [Array.getElem?_setIfInBounds]
    by_cases hjk : k = j
    · subst hjk; simp [h2, hk, hf]
    · simp [hjk, h3 j (by omega)]
  · rw [Array.getElem?_setIfInBounds]
    have hjk : ¬ k = j := by omega
    simp [hjk, h4 j (by omega) h1]
  · obtain ⟨b1, b2, b3⟩ := h8
    refine ⟨b1, b2, fun hn => ?_⟩
    obtain ⟨b, o, e, hlt, hc⟩ := b3 hn
    have hb := hA _ e
    refine ⟨b, o, e, by simpa [World.setCell] using hlt, fun j hj => ?_⟩
    rw [World.cell?_setCell_other _ _ _ _ (fun e => by injection e with e1; have : b < W0.heap.size := hb; omega)]
    exact hc j hj
end

/-- the bit of the pixel k -/
def bitOf (V : Nat) (bs : List UInt8) (k : Nat) : Bool := tone (grey ((bs.getD (3 * k) 0).toNat : Int) ((bs.getD (3 * k + 1) 0).toNat : Int) ((bs.getD (3 * k + 2) 0).toNat : Int)) ((k : Int) % V) ((k : Int) / V)

theorem BRel.start1 {w w1 : World} {q V G : Nat} {f : Nat → Bool} {A : Option Addr} {n c : Nat} {bs : List UInt8} (hz : w.heap.size + 2 ≤ w1.heap.size) (hbw : Below w.heap.size w w1) (hr1 : Bytes w1 A n c bs)
    (K3 : Blk w1 w.heap.size 34 #[.int .i64 V, .int .i64 G, .slice A n c]) (L3 : Blk w1 (w.heap.size + 1) 36 #[.int .i64 0, .int .i64 0, .slice none 0 0]) :
    BRel w w1.heap.size (w1.heap.size + 1) q 0 V G f A n c bs ((w1.alloc (.cells (madeCells #[.int .u8 0] q) 5)).alloc (.cells #[.int .i64 V, .int .i64 G, .slice (some ⟨w1.heap.size, 0, none⟩) q q] 36)).drew := by
  have b1 := (Blk.new w1 5 (madeCells #[.int .u8 0] q)).alloc (.cells #[.int .i64 V, .int .i64 G, .slice (some ⟨w1.heap.size, 0, none⟩) q q] 36)
  have b2 := Blk.new (w1.alloc (.cells (madeCells #[.int .u8 0] q) 5)) 36 #[.int .i64 V, .int .i64 G, .slice (some ⟨w1.heap.size, 0, none⟩) q q]
  have hs1 : (w1.alloc (.cells (madeCells #[.int .u8 0] q) 5)).heap.size = w1.heap.size + 1 := by simp
  rw [hs1] at b2
  exact ⟨_, b1.drew, size_madeCells _ _, fun j hj => absurd hj (by omega), fun j _ hj => by simp [madeCells, hj, Nat.mod_one], b2.drew, ((K3.alloc _).alloc _).drew, ((L3.alloc _).alloc _).drew, hr1.below (by (repeat' (first | exact Below.refl _ _ | exact Below.refl _ _ | refine balloc ?_ _ | refine Below.drew ?_ | refine below_drewN ?_ _ | refine bset ?_ (by first | omega | (simp <;> omega)) _))), by (repeat' (first | exact hbw | exact Below.refl _ _ | refine balloc ?_ _ | refine Below.drew ?_ | refine below_drewN ?_ _ | refine bset ?_ (by first | omega | (simp <;> omega)) _)), by omega, by omega, by omega⟩
theorem BRel.start2 {w w1 : World} {q V G : Nat} {f : Nat → Bool} {A : Option Addr} {n c : Nat} {bs : List UInt8} (hz : w.heap.size + 2 ≤ w1.heap.size) (hbw : Below w.heap.size w w1) (hr1 : Bytes w1 A n c bs)
    (K3 : Blk w1 w.heap.size 34 #[.int .i64 V, .int .i64 G, .slice A n c]) (L3 : Blk w1 (w.heap.size + 1) 36 #[.int .i64 0, .int .i64 0, .slice none 0 0]) :
    BRel w (w1.heap.size + 1) w1.heap.size q 0 V G f A n c bs ((w1.alloc (.cells #[.int .i64 V, .int .i64 G, .slice (some ⟨w1.heap.size + 1, 0, none⟩) q q] 36)).alloc (.cells (madeCells #[.int .u8 0] q) 5)).drew := by
  have b1 := (Blk.new w1 36 #[.int .i64 V, .int .i64 G, .slice (some ⟨w1.heap.size + 1, 0, none⟩) q q]).alloc (.cells (madeCells #[.int .u8 0] q) 5)
  have b2 := Blk.new (w1.alloc (.cells #[.int .i64 V, .int .i64 G, .slice (some ⟨w1.heap.size + 1, 0, none⟩) q q] 36)) 5 (madeCells #[.int .u8 0] q)
  have hs1 : (w1.alloc (.cells #[.int .i64 V, .int .i64 G, .slice (some ⟨w1.heap.size + 1, 0, none⟩) q q] 36)).heap.size = w1.heap.size + 1 := by simp
  rw [hs1] at b2
  exact ⟨_, b2.drew, size_madeCells _ _, fun j hj => absurd hj (by omega), fun j _ hj => by simp [madeCells, hj, Nat.mod_one], b1.drew, ((K3.alloc _).alloc _).drew, ((L3.alloc _).alloc _).drew, hr1.below (by (repeat' (first | exact Below.refl _ _ | exact Below.refl _ _ | refine balloc ?_ _ | refine Below.drew ?_ | refine below_drewN ?_ _ | refine bset ?_ (by first | omega | (simp <;> omega)) _))), by (repeat' (first | exact hbw | exact Below.refl _ _ | refine balloc ?_ _ | refine Below.drew ?_ | refine below_drewN ?_ _ | refine bset ?_ (by first | omega | (simp <;> omega)) _)), by omega, by omega, by omega⟩

/-- what region 8 holds of the world: the cells of the ink in block B, the page's width, the relation -/
def BS (W0 : World) (g p q k V G : Nat) (f : Nat → Bool) (A : Option Addr) (n c : Nat) (bs : List UInt8) (B : Nat) (x0 x1 x2 x3 : Int) (w' : World) : Prop :=
  w'.cell? ⟨B, 0, none⟩ = some (.int .u8 x0) ∧ w'.cell? ⟨B, 1, none⟩ = some (.int .u8 x1) ∧ w'.cell? ⟨B, 2, none⟩ = some (.int .u8 x2) ∧ w'.cell? ⟨B, 3, none⟩ = some (.int .u8 x3) ∧
    w'.cell? ⟨W0.heap.size, 0, none⟩ = some (.int .i64 V) ∧ B < w'.heap.size ∧ W0.heap.size < w'.heap.size ∧ BRel W0 g p q k V G f A n c bs w'
theorem BS.below {W0 : World} {g p q k V G : Nat} {f : Nat → Bool} {A : Option Addr} {n c : Nat} {bs : List UInt8} {B : Nat} {x0 x1 x2 x3 : Int} {w w' : World} (h : BS W0 g p q k V G f A n c bs B x0 x1 x2 x3 w) (hb : Below w.heap.size w w') : BS W0 g p q k V G f A n c bs B x0 x1 x2 x3 w' := by
  obtain ⟨h1, h2, h3, h4, h5, h6, h7, h8⟩ := h
  have hs := hb.size
  exact ⟨(hb.cell (p := ⟨B, 0, none⟩) h6).trans h1, (hb.cell (p := ⟨B, 1, none⟩) h6).trans h2, (hb.cell (p := ⟨B, 2, none⟩) h6).trans h3, (hb.cell (p := ⟨B, 3, none⟩) h6).trans h4, (hb.cell (p := ⟨W0.heap.size, 0, none⟩) h7).trans h5, by omega, by omega, h8.below hb⟩
theorem BS.drew {W0 : World} {g p q k V G : Nat} {f : Nat → Bool} {A : Option Addr} {n c : Nat} {bs : List UInt8} {B : Nat} {x0 x1 x2 x3 : Int} {w : World} (h : BS W0 g p q k V G f A n c bs B x0 x1 x2 x3 w) : BS W0 g p q k V G f A n c bs B x0 x1 x2 x3 w.drew := h.below (by (repeat' (first | exact Below.refl _ _ | exact Below.refl _ _ | refine balloc ?_ _ | refine Below.drew ?_ | refine below_drewN ?_ _ | refine bset ?_ (by first | omega | (simp <;> omega)) _)))
theorem BS.drewN {W0 : World} {g p q k V G : Nat} {f : Nat → Bool} {A : Option Addr} {n c : Nat} {bs : List UInt8} {B : Nat} {x0 x1 x2 x3 : Int} {w : World} (h : BS W0 g p q k V G f A n c bs B x0 x1 x2 x3 w) (m : Nat) : BS W0 g p q k V G f A n c bs B x0 x1 x2 x3 (w.drewN m) := h.below (by (repeat' (first | exact Below.refl _ _ | exact Below.refl _ _ | refine balloc ?_ _ | refine Below.drew ?_ | refine below_drewN ?_ _ | refine bset ?_ (by first | omega | (simp <;> omega)) _)))

/-- the bits of q pixels -/
def bitsL (V : Nat) (bs : List UInt8) (q : Nat) : List UInt8 := (List.range q).map fun k => if bitOf V bs k then 1 else 0
theorem bitsL_len (V : Nat) (bs : List UInt8) (q : Nat) : (bitsL V bs q).length = q := by simp [bitsL]
theorem BRel.bytes {W0 : World} {g p q V G : Nat} {A : Option Addr} {n c : Nat} {bs : List UInt8} {wr w' : World} (h : BRel W0 g p q q V G (bitOf V bs) A n c bs wr) (hb : ∀ cs, Blk wr g 5 cs → Blk w' g 5 cs) :
    Bytes w' (some ⟨g, 0, none⟩) q q (bitsL V bs q) := by
  obtain ⟨cs, h1, h2, h3, _⟩ := h
  refine Bytes.of_blk (hb _ h1) (bitsL_len _ _ _) (Nat.le_refl _) (fun j hj => ?_)
  have hj' : j < q := by simpa [bitsL] using hj
  rw [h3 j hj']
  simp only [bitsL, List.getElem_map, List.getElem_range]
  cases bitOf V bs j <;> rfl
/-- the address of the pixel's bytes -/
theorem BRel.pix {W0 : World} {g p q k V G : Nat} {f : Nat → Bool} {A : Option Addr} {n c : Nat} {bs : List UInt8} {wr : World} (h : BRel W0 g p q k V G f A n c bs wr) (hn : 0 < n) :
    ∃ b o, A = some ⟨b, o, none⟩ ∧ b < wr.heap.size ∧ ∀ (j : Nat) (h : j < n), wr.cell? ⟨b, o + j, none⟩ = some (.int .u8 ((bs.getD j 0).toNat : Int)) := by
  obtain ⟨cs, h1, h2, h3, h4, h5, h6, h7, h8, h9, h10, h11, h12⟩ := h
  exact h8.at_ hn

end Go.Proofs.Ytodeebaogpepkaa.sc
