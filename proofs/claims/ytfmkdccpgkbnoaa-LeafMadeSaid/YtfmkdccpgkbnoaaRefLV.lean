/-
  Layer 39: the reference's contracts for the laws; two pages compared.
-/
import Derived.Test.YtfmkdccpgkbnoaaRefLT
import Derived.Test.YtfmkdccpgkbnoaaLeafN
namespace Go.Proofs.Ytfmkdccpgkbnoaa.lr
set_option linter.unusedVariables false
set_option linter.unusedSimpArgs false
open Go.RowKit bs rg
open lf (S OwnB LB putL takeB hbytes_any)

theorem nil_lb (w : World) : LB w none 0 0 [] := ⟨Bytes.nil_, .inl rfl⟩
set_option maxRecDepth 100000 in
set_option maxHeartbeats 1600000 in
theorem hpage_any (W H : Int) (A D : Option Addr) (n c m d : Nat) (l k : List UInt8) (w : World) (ha : LB w A n c l) (hd : LB w D m d k) :
    Calls Try.prog 18 #[.agg #[.int .i64 W, .int .i64 H, .slice A n c], .agg #[.int .i64 W, .int .i64 H, .slice D m d]] w fun e w' => e = .returned (.bool (decide (l = k))) ∧ Below w.heap.size w w' := by
  have K1 := (Blk.new w 24 #[.int .i64 W, .int .i64 H, .slice A n c]).alloc (.cells #[.int .i64 W, .int .i64 H, .slice D m d] 24)
  have K2 := Blk.new (w.alloc (.cells #[.int .i64 W, .int .i64 H, .slice A n c] 24)) 24 #[.int .i64 W, .int .i64 H, .slice D m d]
  have s1 : ∀ (u : World) (o : Obj), (u.alloc o).heap.size = u.heap.size + 1 := fun u o => by simp
  simp only [s1] at K2
  have HC := Lib.hid (hbytes_any A D n c m d l k ((w.alloc (.cells #[.int .i64 W, .int .i64 H, .slice A n c] 24)).alloc (.cells #[.int .i64 W, .int .i64 H, .slice D m d] 24)) (ha.below (by (repeat' (first | exact Below.refl _ _ | exact Below.refl _ _ | refine balloc ?_ _ | refine Below.drew ?_ | refine below_drewN ?_ _ | refine bset ?_ (by first | omega | (simp <;> omega)) _)))) (hd.below (by (repeat' (first | exact Below.refl _ _ | exact Below.refl _ _ | refine balloc ?_ _ | refine Below.drew ?_ | refine below_drewN ?_ _ | refine bset ?_ (by first | omega | (simp <;> omega)) _)))))
  clear ha hd s1
  obtain ⟨b, hb⟩ : ∃ b, decide (l = k) = b := ⟨_, rfl⟩
  rw [hb] at HC ⊢
  clear hb
  go_enter Try.func18, Try.ntmps18
  go_wp2_with fail
  refine HC.out.mono ?_
  rintro e_ w1 ⟨rfl, hb1⟩
  have HB := Lib.hid (show Below w.heap.size w w1 from btrans (by (repeat' (first | exact Below.refl _ _ | exact Below.refl _ _ | refine balloc ?_ _ | refine Below.drew ?_ | refine below_drewN ?_ _ | refine bset ?_ (by first | omega | (simp <;> omega)) _))) hb1)
  clear hb1
  go_wp2_with fail
  go_ret
  exact ⟨by first | rfl | (simp; done), HB.out⟩
theorem rput_lb (W H n c : Nat) (A : Option Addr) (l : List UInt8) (w : World) (hW : 1 ≤ W ∧ W ≤ 64) (hH : 1 ≤ H ∧ H ≤ 64) (hn : n = 3 * (W * H)) (hb : Bytes w A n c l) :
    Calls Try.prog 14 #[.agg #[.int .i64 (W : Int), .int .i64 (H : Int), .slice A n c]] w fun e w' => ∃ D m f, e = .returned (.tuple #[.slice D m f, .int .i64 0]) ∧ LB w' D m f (putL W H l) ∧ Below w.heap.size w w' := by
  refine (putleaf_any W H n c A l w hW hH hn hb).mono ?_
  rintro e w' ⟨v, rfl, ho, hbw⟩
  obtain ⟨D, f, rfl, hlb⟩ := lf.OwnB.lb ho
  exact ⟨D, _, f, rfl, hlb, hbw⟩
theorem rtake_ok (A : Option Addr) (n c : Nat) (l : List UInt8) (w : World) (hn : n ≤ 12356) (hb : Bytes w A n c l) (W H : Nat) (pix : List UInt8) (q : Nat) (ht : takeB l = (W, H, pix, ([], 0))) (hq : pix.length = q) :
    Calls Try.prog 16 #[.slice A n c] w fun e w' => ∃ D f, e = .returned (.tuple #[.agg #[.int .i64 (W : Int), .int .i64 (H : Int), .slice D q f], .int .i64 0]) ∧ LB w' D q f pix ∧ Below w.heap.size w w' := by
  subst hq
  refine (takeleaf_any A n c l w hn hb W H pix _ ht).mono ?_
  rintro e w' (⟨_, v, rfl, ho, hbw⟩ | ⟨h, _⟩)
  · obtain ⟨D, f, rfl, hlb⟩ := lf.OwnB.lb ho
    exact ⟨D, f, rfl, hlb, hbw⟩
  · exact absurd rfl h
theorem rtake_none (A : Option Addr) (n c : Nat) (l : List UInt8) (w : World) (hb : Bytes w A n c l) (er : Int) (he : (12356 < n ∧ er = 5) ∨ (n ≤ 12356 ∧ er ≠ 0 ∧ (takeB l).2.2.2.2 = er)) :
    Calls Try.prog 16 #[.slice A n c] w fun e w' => e = .returned (.tuple #[.agg #[.int .i64 0, .int .i64 0, .slice none 0 0], .int .i64 er]) ∧ Below w.heap.size w w' := by
  rcases he with ⟨h1, rfl⟩ | ⟨h1, h2, h3⟩
  · exact takeleaf_long A n c w h1
  · obtain ⟨W, H, pix, sf, h⟩ : ∃ W H pix sf, takeB l = (W, H, pix, sf) := ⟨_, _, _, _, rfl⟩
    rw [h] at h3
    refine (takeleaf_any A n c l w h1 hb W H pix _ h).mono ?_
    rintro e w' (⟨h0, _⟩ | ⟨_, rfl, hbw⟩)
    · exact absurd (h3.symm.trans h0) h2
    · exact ⟨by rw [← h3], hbw⟩
end Go.Proofs.Ytfmkdccpgkbnoaa.lr
