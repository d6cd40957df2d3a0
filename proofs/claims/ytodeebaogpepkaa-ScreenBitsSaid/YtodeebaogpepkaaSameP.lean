/-
  ink.Same of pages that are alike. (PRUNE)
-/
import Derived.Test.YtodeebaogpepkaaPage
namespace Go.Proofs.Ytodeebaogpepkaa.rg
set_option linter.unusedVariables false
set_option linter.unusedSimpArgs false
open Go.RowKit bs sp ik

/-- the bytes as a list -/
def listB (n : Nat) (B : Nat → Int) : List UInt8 := (List.range n).map fun j => UInt8.ofNat (B j).toNat
theorem listB_len (n : Nat) (B : Nat → Int) : (listB n B).length = n := by simp [listB]
theorem listB_get (n : Nat) (B : Nat → Int) (j : Nat) (h : j < (listB n B).length) (hb : 0 ≤ B j ∧ B j ≤ 255) : ((listB n B)[j].toNat : Int) = B j := by
  simp only [listB, List.getElem_map, List.getElem_range]
  rw [UInt8.toNat_ofNat']
  omega
theorem listB_ext {n : Nat} {B C : Nat → Int} (h : ∀ j, j < n → B j = C j) : listB n B = listB n C := by
  unfold listB
  refine List.map_congr_left fun j hj => ?_
  rw [h j (List.mem_range.1 hj)]
/-- the bytes as a string -/
theorem Pg.str {w : World} {A : Option Addr} {n c : Nat} {B : Nat → Int} (h : Pg w A n c B) : (convert 32 9 (.slice A n c)).run Try.prog w = .ok (.string ⟨(listB n B).toArray⟩) w := by
  obtain ⟨h1, b, o, rfl, h3, h4⟩ := h
  have := run_convert_bytes_back (P := Try.prog) w 32 9 5 ⟨b, o, none⟩ c (listB n B) Try.underlying32 Try.underlying5 Try.underlying9 (fun j hj => by
    have hj' : j < n := by rw [listB_len] at hj; exact hj
    rw [Go.WideShapes.add_plain, (h4 j hj').1, listB_get n B j hj (h4 j hj').2])
  rw [listB_len] at this
  exact this

end Go.Proofs.Ytodeebaogpepkaa.rg
