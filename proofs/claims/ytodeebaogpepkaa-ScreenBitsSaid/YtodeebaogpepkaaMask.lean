/-
  tympanhelp.Bytes and Mask where both are alike.
-/
import Derived.Test.YtodeebaogpepkaaMem
import Derived.Laws.IdiomStrings
import Derived.Laws.BytesArg
namespace Go.Proofs.Ytodeebaogpepkaa.sc
set_option linter.unusedVariables false
set_option linter.unusedSimpArgs false
open Go.RowKit bs

theorem bytes_str {w : World} {A : Option Addr} {n c : Nat} {bs : List UInt8} (h : Bytes w A n c bs) :
    (convert 32 9 (.slice A n c)).run Try.prog w = .ok (.string ⟨bs.toArray⟩) w := by
  obtain ⟨h1, h2, h3⟩ := h
  subst h1
  by_cases hn : 0 < bs.length
  · obtain ⟨b, o, rfl, hlt, hc⟩ := h3 hn
    exact run_convert_bytes_back w _ _ _ ⟨b, o, none⟩ c bs Try.underlying32 Try.underlying5 Try.underlying9 (fun j hj => by rw [Go.WideShapes.add_plain]; exact hc j hj)
  · obtain rfl : bs = [] := List.eq_nil_of_length_eq_zero (by omega)
    cases A with
    | none =>
      rw [run_convert_bytes_string w _ _ _ none _ c Try.underlying32 Try.underlying5 Try.underlying9]
      rfl
    | some a => exact run_convert_bytes_back w _ _ _ a c [] Try.underlying32 Try.underlying5 Try.underlying9 (fun j hj => absurd hj (by simp))

theorem bytes_yes (A B : Option Addr) (n c m d : Nat) (bs : List UInt8) (w : World) (ha : Bytes w A n c bs) (hb : Bytes w B m d bs) :
    Calls Try.prog 40 #[.slice A n c, .slice B m d] w fun e w' => e = .returned (.bool true) ∧ w = w' := by
  have k1 := bytes_str ha
  have k2 := bytes_str hb
  go_enter Try.func40, Try.ntmps40
  go_wp2_with fail
  go_ret
  exact ⟨rfl, rfl⟩
theorem mask_yes (W H : Int) (A B : Option Addr) (n c m d : Nat) (bs : List UInt8) (w : World) (ha : Bytes w A n c bs) (hb : Bytes w B m d bs) :
    Calls Try.prog 21 #[.agg #[.int .i64 W, .int .i64 H, .slice A n c], .agg #[.int .i64 W, .int .i64 H, .slice B m d]] w fun e w' => e = .returned (.bool true) ∧ Below w.heap.size w w' := by
  go_enter Try.func21, Try.ntmps21
  go_wp2_with fail
  refine (bytes_yes A B n c m d bs _ (ha.below (by (repeat' (first | exact Below.refl _ _ | exact Below.refl _ _ | refine balloc ?_ _ | refine Below.drew ?_ | refine below_drewN ?_ _ | refine bset ?_ (by first | omega | (simp <;> omega)) _)))) (hb.below (by (repeat' (first | exact Below.refl _ _ | exact Below.refl _ _ | refine balloc ?_ _ | refine Below.drew ?_ | refine below_drewN ?_ _ | refine bset ?_ (by first | omega | (simp <;> omega)) _))))).mono ?_
  rintro e w' ⟨rfl, rfl⟩
  go_wp2_with fail
  go_ret
  exact ⟨rfl, by (repeat' (first | exact Below.refl _ _ | exact Below.refl _ _ | refine balloc ?_ _ | refine Below.drew ?_ | refine below_drewN ?_ _ | refine bset ?_ (by first | omega | (simp <;> omega)) _))⟩
end Go.Proofs.Ytodeebaogpepkaa.sc
