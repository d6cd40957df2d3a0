/-
  The reference's copied. (PRUNE)
-/
import Derived.Test.YtmjpmeigfdgioaaFair
import Derived.Deep.RegionHeld3
import Derived.Deep.CutRange
namespace Go.Proofs.Ytmjpmeigfdgioaa.rg
set_option linter.unusedVariables false
set_option linter.unusedSimpArgs false
open Go.RowKit bs sp ik

theorem own_emptyD (w : World) (g base : Nat) (hg : w.heap.size = g) (h : base ≤ g) : (w.alloc (.cells #[] 5)).drew.ownsRow base 5 1 (.slice (some ⟨g, 0, none⟩) 0 0) 0 [] := own_empty w g base hg h
theorem keepC {W0 a w' : World} {b : Nat} {v0 v1 v2 : Value} (hb : Below a.heap.size a w') (h : Below W0.heap.size W0 a ∧ a.cell? ⟨b, 0, none⟩ = some v0 ∧ a.cell? ⟨b, 1, none⟩ = some v1 ∧ a.cell? ⟨b, 2, none⟩ = some v2) :
    Below W0.heap.size W0 w' ∧ w'.cell? ⟨b, 0, none⟩ = some v0 ∧ w'.cell? ⟨b, 1, none⟩ = some v1 ∧ w'.cell? ⟨b, 2, none⟩ = some v2 := by
  obtain ⟨h1, h2, h3, h4⟩ := h
  exact ⟨btrans h1 hb, (hb.cell (p := ⟨b, 0, none⟩) (block_lt_of_cell h2)).trans h2, (hb.cell (p := ⟨b, 1, none⟩) (block_lt_of_cell h3)).trans h3, (hb.cell (p := ⟨b, 2, none⟩) (block_lt_of_cell h4)).trans h4⟩

theorem keepC3 {W0 a : World} {b q : Nat} {v0 v1 v2 : Value} (u0 u1 u2 : Value) (hq : W0.heap.size ≤ q) (hne : b ≠ q) (h : Below W0.heap.size W0 a ∧ a.cell? ⟨b, 0, none⟩ = some v0 ∧ a.cell? ⟨b, 1, none⟩ = some v1 ∧ a.cell? ⟨b, 2, none⟩ = some v2) :
    Below W0.heap.size W0 (((a.setCell ⟨q, 0, none⟩ u0).setCell ⟨q, 1, none⟩ u1).setCell ⟨q, 2, none⟩ u2) ∧ (((a.setCell ⟨q, 0, none⟩ u0).setCell ⟨q, 1, none⟩ u1).setCell ⟨q, 2, none⟩ u2).cell? ⟨b, 0, none⟩ = some v0 ∧
      (((a.setCell ⟨q, 0, none⟩ u0).setCell ⟨q, 1, none⟩ u1).setCell ⟨q, 2, none⟩ u2).cell? ⟨b, 1, none⟩ = some v1 ∧ (((a.setCell ⟨q, 0, none⟩ u0).setCell ⟨q, 1, none⟩ u1).setCell ⟨q, 2, none⟩ u2).cell? ⟨b, 2, none⟩ = some v2 := by
  obtain ⟨h1, h2, h3, h4⟩ := h
  have far : ∀ (v : World) (o1 o2 : Nat) (u : Value), (v.setCell ⟨q, o1, none⟩ u).cell? ⟨b, o2, none⟩ = v.cell? ⟨b, o2, none⟩ := fun v o1 o2 u => World.cell?_setCell_other v _ _ u (fun e => hne (Addr.mk.inj e).1.symm)
  exact ⟨bset (bset (bset h1 hq _) hq _) hq _, by rw [far, far, far]; exact h2, by rw [far, far, far]; exact h3, by rw [far, far, far]; exact h4⟩

set_option maxRecDepth 100000 in
set_option maxHeartbeats 1600000 in
theorem rcopied_any (W H : Int) (n c : Nat) (A : Option Addr) (B : Nat → Int) (w : World) (hn0 : 0 < n) (hn : n ≤ 12288) (hp : Pg w A n c B) :
    Calls Try.prog 39 #[.agg #[.int .i64 W, .int .i64 H, .slice A n c]] w fun e w' => ∃ g d cs, w.heap.size ≤ g ∧ e = .returned (.agg #[.int .i64 W, .int .i64 H, .slice (some ⟨g, 0, none⟩) n d]) ∧ n ≤ d ∧ Blk w' g 5 cs ∧ Holds cs n B ∧ Below w.heap.size w w' := by
  obtain ⟨hnc, b, o, rfl, hlt, hcell⟩ := id hp
  obtain ⟨i0, hi, hz0, hz1, hz2⟩ := info_parts (show (Try.prog.info? 5).map (fun i => (i.zero, i.size, i.bytes)) = some (some (.int .u8 0), 1, 1) by kernel_rfl)
  have Kp := ((Blk.new w 30 #[.int .i64 W, .int .i64 H, .slice (some ⟨b, o, none⟩) n c]).alloc (.cells #[.int .i64 0, .int .i64 0, .slice none 0 0] 30))
  have Kz := (Blk.new (w.alloc (.cells #[.int .i64 W, .int .i64 H, .slice (some ⟨b, o, none⟩) n c] 30)) 30 #[.int .i64 0, .int .i64 0, .slice none 0 0])
  have s1 : ∀ (u : World) (o : Obj), (u.alloc o).heap.size = u.heap.size + 1 := fun u o => by simp
  simp only [s1] at Kz
  have HP := Lib.hid hp
  have hbw : Below w.heap.size w ((w.alloc (.cells #[.int .i64 W, .int .i64 H, .slice (some ⟨b, o, none⟩) n c] 30)).alloc (.cells #[.int .i64 0, .int .i64 0, .slice none 0 0] 30)) := by (repeat' (first | exact Below.refl _ _ | exact Below.refl _ _ | refine balloc ?_ _ | refine Below.drew ?_ | refine below_drewN ?_ _ | refine bset ?_ (by first | omega | (simp <;> omega)) _))
  clear s1 hp hcell
  go_enter Try.func39, Try.ntmps39
  go_wp2_with fail
  generalize hwx : (w.alloc (.cells #[.int .i64 W, .int .i64 H, .slice (some ⟨b, o, none⟩) n c] 30)).alloc (.cells #[.int .i64 0, .int .i64 0, .slice none 0 0] 30) = wz at *
  have hsz : wz.heap.size = w.heap.size + 1 + 1 := by rw [← hwx]; simp
  clear hwx
  have k0 := Kp.cell 0
  have k1 := Kp.cell 1
  have k2 := Kp.cell 2
  simp only [List.getElem?_toArray, List.getElem?_cons_succ, List.getElem?_cons_zero] at k0 k1 k2
  have HS0 : (fun wX : World => Below w.heap.size w wX ∧ wX.cell? ⟨w.heap.size, 0, none⟩ = some (.int .i64 W) ∧ wX.cell? ⟨w.heap.size, 1, none⟩ = some (.int .i64 H) ∧ wX.cell? ⟨w.heap.size, 2, none⟩ = some (.slice (some ⟨b, o, none⟩) n c)) wz.drew := ⟨Below.drew hbw, k0, k1, k2⟩
  clear k0 k1 k2
  go_region_held3 (fun wX : World => Below w.heap.size w wX ∧ wX.cell? ⟨w.heap.size, 0, none⟩ = some (.int .i64 W) ∧ wX.cell? ⟨w.heap.size, 1, none⟩ = some (.int .i64 H) ∧ wX.cell? ⟨w.heap.size, 2, none⟩ = some (.slice (some ⟨b, o, none⟩) n c)) (first | exact HS0 | exact keepC (balloc (Below.refl _ _) _) HS0 | exact hSa | exact keepC3 _ _ _ (Nat.le_succ _) (by omega) hSa | assumption) (first
    | (refine step_append_any _ rfl (.tmp 7) (.tmp 9) 28 rfl (w.heap.size + 1 + 1) 5 i0 (.int .u8 0) 1 1 Try.underlying28 hi hz0 hz1 hz2 rfl (by omega) _ 0 [] rfl (own_emptyD _ (w.heap.size + 1 + 1) _ (by simpa using hsz) (by omega)) _ (some ⟨b, o, none⟩) n c _ rfl (HP.out.below (And.left (by assumption))).reads (by simp [Value.oneCell']) (by simp [maxLen]; omega) (by omega) (by first | (simp; done) | (simp; omega)) ?_; intro v1 w1 hown1 hg1 _; obtain ⟨g, d, cs, hv, hg, hB, hd, hs, ht, hbw1, K1, Z1⟩ := copied_mid hn0 hown1 hg1 (And.left (by assumption)) (Kp.alloc _).drew (Kz.alloc _).drew; subst hv; have hSa := And.intro hbw1 (And.intro (K1.cell 0) (And.intro (K1.cell 1) (K1.cell 2))); have z0 := Z1.cell 0; have z1 := Z1.cell 1; have z2 := Z1.cell 2; have y0 := Z1.frozen 0; have y1 := Z1.frozen 1; have y2 := Z1.frozen 2; simp only [List.getElem?_toArray, List.getElem?_cons_succ, List.getElem?_cons_zero] at hSa z0 z1 z2; have HB1 := Lib.hid hB; have HT := Lib.hid ht; have HZ1 := Lib.hid Z1; have HBW1 := Lib.hid hbw1; clear hB ht Z1 K1 hbw1 hown1 hg1))
  clear hsz hSa Kp Kz hbw hi hz0 hz1 hz2 z0 z1 z2 y0 y1 y2 HS0
  go_wp2_with fail
  have K := ((HZ1.out.set_ 0 (.int .i64 W)).set_ 1 (.int .i64 H)).set_ 2 (.slice (some ⟨g, 0, none⟩) n d)
  refine ret_struct1 (g := w.heap.size + 1) (t := 30) (cs := #[.int .i64 W, .int .i64 H, .slice (some ⟨g, 0, none⟩) n d]) rfl rfl ?_ Try.underlying30 rfl rfl rfl ?_
  · exact K
  · exact ⟨g, d, cs, by omega, rfl, hd, ((HB1.out.far (by simp; omega) _).far (by simp; omega) _).far (by simp; omega) _, Holds.of_take HP.out (by omega) HT.out, by (repeat' (first | refine bset ?_ (by first | omega | (simp <;> omega)) _ | refine balloc ?_ _ | refine Below.drew ?_ | refine below_drewN ?_ _ | exact HBW1.out | exact Below.refl _ _))⟩
end Go.Proofs.Ytmjpmeigfdgioaa.rg
