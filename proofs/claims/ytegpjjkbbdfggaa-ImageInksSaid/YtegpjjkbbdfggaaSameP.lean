/-
  ink.Same of pages that are alike. (PRUNE)
-/
import Derived.Test.YtegpjjkbbdfggaaPage
namespace Go.Proofs.Ytegpjjkbbdfggaa.rg
set_option linter.unusedVariables false
set_option linter.unusedSimpArgs false
open Go.RowKit bs sp ik

/-- the bytes as a list -/
def listB (n : Nat) (B : Nat → Int) : List UInt8 := (List.range n).map fun j => UInt8.ofNat (B j).toNat
theorem listB_len (n : Nat) (B : Nat → Int) : (listB n B).length = n := by simp [listB]
theorem listB_get (n : Nat) (B : Nat → Int) (j : Nat) (h : j < (listB n B).length) (hb : 0 ≤ B j ∧ B j ≤ 255) : ((listB n B)[j].toNat : Int) = B j := by
  simp only [listB, List.getElem_map, List.getElem_range]
  rw [UInt8.toNat_ofNat']
  omega
theorem listB_ext {n : Nat} {B C : Nat → Int} (h : ∀ j, j < n → B j = C j) : listB n B = listB n C := by
  unfold listB
  refine List.map_congr_left fun j hj => ?_
  rw [h j (List.mem_range.1 hj)]
/-- the bytes as a string -/
theorem Pg.str {w : World} {A : Option Addr} {n c : Nat} {B : Nat → Int} (h : Pg w A n c B) : (convert 44 9 (.slice A n c)).run Try.prog w = .ok (.string ⟨(listB n B).toArray⟩) w := by
  obtain ⟨h1, b, o, rfl, h3, h4⟩ := h
  have := run_convert_bytes_back (P := Try.prog) w 44 9 5 ⟨b, o, none⟩ c (listB n B) Try.underlying44 Try.underlying5 Try.underlying9 (fun j hj => by
    have hj' : j < n := by rw [listB_len] at hj; exact hj
    rw [Go.WideShapes.add_plain, (h4 j hj').1, listB_get n B j hj (h4 j hj').2])
  rw [listB_len] at this
  exact this

set_option maxRecDepth 100000 in
set_option maxHeartbeats 1600000 in
theorem psame_yes (W H : Int) (n c d : Nat) (A D : Option Addr) (B C : Nat → Int) (w : World) (hp : Pg w A n c B) (hq : Pg w D n d C) (hBC : ∀ j, j < n → B j = C j) :
    Calls Try.prog 33 #[.agg #[.int .i64 W, .int .i64 H, .slice A n c], .agg #[.int .i64 W, .int .i64 H, .slice D n d]] w fun e w' => e = .returned (.bool true) ∧ Below w.heap.size w w' := by
  have hq2 := hq.ext fun j hj => (hBC j hj).symm
  have S1 := (hp.below (w' := (w.alloc (.cells #[.int .i64 W, .int .i64 H, .slice A n c] 46)).alloc (.cells #[.int .i64 W, .int .i64 H, .slice D n d] 46)) (by (repeat' (first | exact Below.refl _ _ | exact Below.refl _ _ | refine balloc ?_ _ | refine Below.drew ?_ | refine below_drewN ?_ _ | refine bset ?_ (by first | omega | (simp <;> omega)) _)))).str
  have S2 := (hq2.below (w' := (w.alloc (.cells #[.int .i64 W, .int .i64 H, .slice A n c] 46)).alloc (.cells #[.int .i64 W, .int .i64 H, .slice D n d] 46)) (by (repeat' (first | exact Below.refl _ _ | exact Below.refl _ _ | refine balloc ?_ _ | refine Below.drew ?_ | refine below_drewN ?_ _ | refine bset ?_ (by first | omega | (simp <;> omega)) _)))).str
  obtain ⟨s, hs⟩ : ∃ s : ByteArray, ⟨(listB n B).toArray⟩ = s := ⟨_, rfl⟩
  rw [hs] at S1 S2
  clear hq2 hs hBC hp hq
  go_enter Try.func33, Try.ntmps33
  go_wp2_with fail
  go_ret
  exact ⟨by simp, by (repeat' (first | exact Below.refl _ _ | exact Below.refl _ _ | refine balloc ?_ _ | refine Below.drew ?_ | refine below_drewN ?_ _ | refine bset ?_ (by first | omega | (simp <;> omega)) _))⟩
end Go.Proofs.Ytegpjjkbbdfggaa.rg
