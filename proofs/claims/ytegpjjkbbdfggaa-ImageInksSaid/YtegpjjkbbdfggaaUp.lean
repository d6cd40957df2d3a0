/-
  A region that draws its order, whose operations read and whose callees may also make memory of their own ('Below'): walked once, as a quiet one (the kit's wp_region_quiet at the class of the worlds that keep what lay).
-/
import Derived.Test.YtegpjjkbbdfggaaBase
namespace Go.Proofs.Ytegpjjkbbdfggaa.bs
set_option linter.unusedVariables false
set_option linter.unusedSimpArgs false
open Go.RowKit

/-- the worlds that keep all that lay in w -/
def Up (w : World) : Type := { w' : World // Below w.heap.size w w' }
def Up.val {w : World} (u : Up w) : World := Subtype.val u
theorem Up.ok {w : World} (u : Up w) : Below w.heap.size w u.val := u.property
def Up.of {w w' : World} (h : Below w.heap.size w w') : Up w := ⟨w', h⟩
theorem Up.val_of {w w' : World} (h : Below w.heap.size w w') : (Up.of h).val = w' := rfl
instance {w : World} : Nonempty (Up w) := ⟨Up.of (Below.refl _ _)⟩
theorem Up.cell {w : World} (u : Up w) {p : Addr} (h : p.block < w.heap.size) : u.val.cell? p = w.cell? p := u.ok.cell h

theorem wp_region_up {P : Program} {id : Nat} {Q : Exit → Act → World → Prop} {a : Act} {w : World} {l : List Oper} (hm : P.follows .mixedOrders = true) (hB : Region.lexB .any l.toArray = true)
    (h : wpQuiet P l.toArray (fun w' => ∃ u : Up w, w' = u.val) (fun a' => ∀ w', (∃ u : Up w, w' = u.val) → Q .normal a' w') l a) : (Code.region id l.toArray true).wp P Q a w :=
  wp_region_quiet (C := fun w' => ∃ u : Up w, w' = u.val) hm hB ⟨Up.of (w' := w.drew) (Below.drew (Below.refl _ _)), rfl⟩ h

/-- a callee's contract, met in a world of the class -/
theorem up_of {P : Program} {f : FuncId} {args : Array Value} {w : World} {u : Up w} {v : Value} (h : Calls P f args u.val fun e w' => e = .returned v ∧ Below u.val.heap.size u.val w') :
    Calls P f args u.val fun e w'' => e = .returned v ∧ ∃ u' : Up w, w'' = u'.val :=
  h.mono fun _ w' ⟨he, hb⟩ => ⟨he, Up.of (btrans u.ok hb), rfl⟩
theorem up_same {P : Program} {f : FuncId} {args : Array Value} {w : World} {u : Up w} {v : Value} (h : Calls P f args u.val fun e w' => e = .returned v ∧ u.val = w') :
    Calls P f args u.val fun e w'' => e = .returned v ∧ ∃ u' : Up w, w'' = u'.val :=
  h.mono fun _ w' ⟨he, hb⟩ => ⟨he, u, hb.symm⟩
theorem up_drew {P : Program} {f : FuncId} {args : Array Value} {w : World} {u : Up w} {v : Value} (h : Calls P f args u.val fun e w' => e = .returned v ∧ ∃ n, u.val.drewN n = w') :
    Calls P f args u.val fun e w'' => e = .returned v ∧ ∃ u' : Up w, w'' = u'.val :=
  h.mono fun _ w' ⟨he, n, hb⟩ => ⟨he, Up.of (w' := w') (by rw [← hb]; exact below_drewN u.ok n), rfl⟩
end Go.Proofs.Ytegpjjkbbdfggaa.bs
