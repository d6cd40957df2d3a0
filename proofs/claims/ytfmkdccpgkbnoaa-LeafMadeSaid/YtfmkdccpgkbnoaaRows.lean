/-
  No cell of these rows narrows 'for every input' (looked for: loops, veiled, ifaces, maps, wideKeys, modest, calm, conditions, laid).
  DERIVED. THE GIVEN ROWS OF THIS SEAT. 9 by the template 'for every input the law returns true; each argument reads behind the call as it read before'; 0 by the template 'total and deterministic' (their statements: YtfmkdccpgkbnoaaTotals.lean).
  GIVEN WITH THE SEED: the statements are not yours to turn. If you find one false, say at which input.
  Laid BY PROGRAM, IN A SANDBOX (cutbox-rows.mjs): the forced cells as the released guide's own fill.sh prints them over the translation 298e414ccebf2b66… (all of the seat's roots in one cut). By AI agents, Wed Nov 11 2026. No macro, syntax, notation, axiom, sorry.
-/
import Derived.Test.YtfmkdccpgkbnoaaChecked
import GoSem.Claim
import GoSem.ClaimJoined
import GoSem.ClaimMapViews
import Derived.JoinedTies
import Derived.KernelRfl
namespace Go.Proofs.Ytfmkdccpgkbnoaa
/- THE CELL 'sum', in the pinned program and in every row, IS THE sha256 OF THE DUMP (.gsa) THAT YtfmkdccpgkbnoaaProg.lean LOADS. Nothing in Lean hashes anything: it is a label: what it is worth is what the hold of that sum in a sandbox is worth. -/
noncomputable def Try.pinned : Pinned := { name := "ytfmkdccpgkbnoaa", sum := "298e414ccebf2b662498fa9080d112a046d5a126f446b21392983d1857321e44", checked := Try.checked }
namespace Rows
def none {H : Type} : Left H := { results := [], args := [] }

/-- 'tympanlaw39.LeafSays': WHATEVER THE INPUT: true; the input reads as it did. -/
def leafSaysSpec : ChangeSpec := { name := "leafSays", fn := fun _ => fun
  | [d1, d2] => { results := [.lit (.bool true)], args := [d1, d2] }
  | _ => none }
def leafSaysRow : OpenClaim := { program := "ytfmkdccpgkbnoaa", sum := "298e414ccebf2b662498fa9080d112a046d5a126f446b21392983d1857321e44", func := "tympan/tympanlaw39.LeafSays", spec := "leafSays", apart := false }
def LeafSaysSaid : Prop := leafSaysRow.holds Try.pinned (OpenSpec.ofChange leafSaysSpec)

/-- ITS FALSE NEIGHBOUR: 'it returns false'. Refute it at one input. -/
def leafSaysWrong : ChangeSpec := { name := "leafSays", fn := fun _ => fun
  | [d1, d2] => { results := [.lit (.bool false)], args := [d1, d2] }
  | _ => none }
def LeafSaysWrongFalsely : Prop := leafSaysRow.holds Try.pinned (OpenSpec.ofChange leafSaysWrong)

/-- 'tympanlaw39.LeafMade': WHATEVER THE INPUT: true; the input reads as it did. -/
def leafMadeSpec : ChangeSpec := { name := "leafMade", fn := fun _ => fun
  | [d] => { results := [.lit (.bool true)], args := [d] }
  | _ => none }
def leafMadeRow : OpenClaim := { program := "ytfmkdccpgkbnoaa", sum := "298e414ccebf2b662498fa9080d112a046d5a126f446b21392983d1857321e44", func := "tympan/tympanlaw39.LeafMade", spec := "leafMade", apart := false }
def LeafMadeSaid : Prop := leafMadeRow.holds Try.pinned (OpenSpec.ofChange leafMadeSpec)

/-- ITS FALSE NEIGHBOUR: 'it returns false'. Refute it at one input. -/
def leafMadeWrong : ChangeSpec := { name := "leafMade", fn := fun _ => fun
  | [d] => { results := [.lit (.bool false)], args := [d] }
  | _ => none }
def LeafMadeWrongFalsely : Prop := leafMadeRow.holds Try.pinned (OpenSpec.ofChange leafMadeWrong)

/-- 'tympanlaw39.LeafCuts': WHATEVER THE INPUT: true; the input reads as it did. -/
def leafCutsSpec : ChangeSpec := { name := "leafCuts", fn := fun _ => fun
  | [d1, d2, d3, d4, d5] => { results := [.lit (.bool true)], args := [d1, d2, d3, d4, d5] }
  | _ => none }
def leafCutsRow : OpenClaim := { program := "ytfmkdccpgkbnoaa", sum := "298e414ccebf2b662498fa9080d112a046d5a126f446b21392983d1857321e44", func := "tympan/tympanlaw39.LeafCuts", spec := "leafCuts", apart := false }
def LeafCutsSaid : Prop := leafCutsRow.holds Try.pinned (OpenSpec.ofChange leafCutsSpec)

/-- ITS FALSE NEIGHBOUR: 'it returns false'. Refute it at one input. -/
def leafCutsWrong : ChangeSpec := { name := "leafCuts", fn := fun _ => fun
  | [d1, d2, d3, d4, d5] => { results := [.lit (.bool false)], args := [d1, d2, d3, d4, d5] }
  | _ => none }
def LeafCutsWrongFalsely : Prop := leafCutsRow.holds Try.pinned (OpenSpec.ofChange leafCutsWrong)

/-- 'tympanlaw39.LeafRows': WHATEVER THE INPUT: true; the input reads as it did. -/
def leafRowsSpec : ChangeSpec := { name := "leafRows", fn := fun _ => fun
  | [d1, d2, d3] => { results := [.lit (.bool true)], args := [d1, d2, d3] }
  | _ => none }
def leafRowsRow : OpenClaim := { program := "ytfmkdccpgkbnoaa", sum := "298e414ccebf2b662498fa9080d112a046d5a126f446b21392983d1857321e44", func := "tympan/tympanlaw39.LeafRows", spec := "leafRows", apart := false }
def LeafRowsSaid : Prop := leafRowsRow.holds Try.pinned (OpenSpec.ofChange leafRowsSpec)

/-- ITS FALSE NEIGHBOUR: 'it returns false'. Refute it at one input. -/
def leafRowsWrong : ChangeSpec := { name := "leafRows", fn := fun _ => fun
  | [d1, d2, d3] => { results := [.lit (.bool false)], args := [d1, d2, d3] }
  | _ => none }
def LeafRowsWrongFalsely : Prop := leafRowsRow.holds Try.pinned (OpenSpec.ofChange leafRowsWrong)

/-- 'tympanlaw39.LeafBack': WHATEVER THE INPUT: true; the input reads as it did. -/
def leafBackSpec : ChangeSpec := { name := "leafBack", fn := fun _ => fun
  | [d1, d2, d3, d4, d5] => { results := [.lit (.bool true)], args := [d1, d2, d3, d4, d5] }
  | _ => none }
def leafBackRow : OpenClaim := { program := "ytfmkdccpgkbnoaa", sum := "298e414ccebf2b662498fa9080d112a046d5a126f446b21392983d1857321e44", func := "tympan/tympanlaw39.LeafBack", spec := "leafBack", apart := false }
def LeafBackSaid : Prop := leafBackRow.holds Try.pinned (OpenSpec.ofChange leafBackSpec)

/-- ITS FALSE NEIGHBOUR: 'it returns false'. Refute it at one input. -/
def leafBackWrong : ChangeSpec := { name := "leafBack", fn := fun _ => fun
  | [d1, d2, d3, d4, d5] => { results := [.lit (.bool false)], args := [d1, d2, d3, d4, d5] }
  | _ => none }
def LeafBackWrongFalsely : Prop := leafBackRow.holds Try.pinned (OpenSpec.ofChange leafBackWrong)

/-- 'tympanlaw39.LeafTurned': WHATEVER THE INPUT: true; the input reads as it did. -/
def leafTurnedSpec : ChangeSpec := { name := "leafTurned", fn := fun _ => fun
  | [d1, d2, d3, d4, d5] => { results := [.lit (.bool true)], args := [d1, d2, d3, d4, d5] }
  | _ => none }
def leafTurnedRow : OpenClaim := { program := "ytfmkdccpgkbnoaa", sum := "298e414ccebf2b662498fa9080d112a046d5a126f446b21392983d1857321e44", func := "tympan/tympanlaw39.LeafTurned", spec := "leafTurned", apart := false }
def LeafTurnedSaid : Prop := leafTurnedRow.holds Try.pinned (OpenSpec.ofChange leafTurnedSpec)

/-- ITS FALSE NEIGHBOUR: 'it returns false'. Refute it at one input. -/
def leafTurnedWrong : ChangeSpec := { name := "leafTurned", fn := fun _ => fun
  | [d1, d2, d3, d4, d5] => { results := [.lit (.bool false)], args := [d1, d2, d3, d4, d5] }
  | _ => none }
def LeafTurnedWrongFalsely : Prop := leafTurnedRow.holds Try.pinned (OpenSpec.ofChange leafTurnedWrong)

/-- 'tympanlaw39.LeafOne': WHATEVER THE INPUT: true; the input reads as it did. -/
def leafOneSpec : ChangeSpec := { name := "leafOne", fn := fun _ => fun
  | [d1, d2, d3, d4, d5] => { results := [.lit (.bool true)], args := [d1, d2, d3, d4, d5] }
  | _ => none }
def leafOneRow : OpenClaim := { program := "ytfmkdccpgkbnoaa", sum := "298e414ccebf2b662498fa9080d112a046d5a126f446b21392983d1857321e44", func := "tympan/tympanlaw39.LeafOne", spec := "leafOne", unfollowed := true, recurses := true, apart := false }
def LeafOneSaid : Prop := leafOneRow.holds Try.pinned (OpenSpec.ofChange leafOneSpec)

/-- ITS FALSE NEIGHBOUR: 'it returns false'. Refute it at one input. -/
def leafOneWrong : ChangeSpec := { name := "leafOne", fn := fun _ => fun
  | [d1, d2, d3, d4, d5] => { results := [.lit (.bool false)], args := [d1, d2, d3, d4, d5] }
  | _ => none }
def LeafOneWrongFalsely : Prop := leafOneRow.holds Try.pinned (OpenSpec.ofChange leafOneWrong)

/-- 'tympanlaw39.LeafSizes': WHATEVER THE INPUT: true; the input reads as it did. -/
def leafSizesSpec : ChangeSpec := { name := "leafSizes", fn := fun _ => fun
  | [d1, d2, d3, d4] => { results := [.lit (.bool true)], args := [d1, d2, d3, d4] }
  | _ => none }
def leafSizesRow : OpenClaim := { program := "ytfmkdccpgkbnoaa", sum := "298e414ccebf2b662498fa9080d112a046d5a126f446b21392983d1857321e44", func := "tympan/tympanlaw39.LeafSizes", spec := "leafSizes", unfollowed := true, recurses := true, apart := false }
def LeafSizesSaid : Prop := leafSizesRow.holds Try.pinned (OpenSpec.ofChange leafSizesSpec)

/-- ITS FALSE NEIGHBOUR: 'it returns false'. Refute it at one input. -/
def leafSizesWrong : ChangeSpec := { name := "leafSizes", fn := fun _ => fun
  | [d1, d2, d3, d4] => { results := [.lit (.bool false)], args := [d1, d2, d3, d4] }
  | _ => none }
def LeafSizesWrongFalsely : Prop := leafSizesRow.holds Try.pinned (OpenSpec.ofChange leafSizesWrong)

/-- 'tympanlaw39.LeafBoxes': WHATEVER THE INPUT: true; the input reads as it did. -/
def leafBoxesSpec : ChangeSpec := { name := "leafBoxes", fn := fun _ => fun
  | [d1, d2, d3] => { results := [.lit (.bool true)], args := [d1, d2, d3] }
  | _ => none }
def leafBoxesRow : OpenClaim := { program := "ytfmkdccpgkbnoaa", sum := "298e414ccebf2b662498fa9080d112a046d5a126f446b21392983d1857321e44", func := "tympan/tympanlaw39.LeafBoxes", spec := "leafBoxes", unfollowed := true, recurses := true, apart := false }
def LeafBoxesSaid : Prop := leafBoxesRow.holds Try.pinned (OpenSpec.ofChange leafBoxesSpec)

/-- ITS FALSE NEIGHBOUR: 'it returns false'. Refute it at one input. -/
def leafBoxesWrong : ChangeSpec := { name := "leafBoxes", fn := fun _ => fun
  | [d1, d2, d3] => { results := [.lit (.bool false)], args := [d1, d2, d3] }
  | _ => none }
def LeafBoxesWrongFalsely : Prop := leafBoxesRow.holds Try.pinned (OpenSpec.ofChange leafBoxesWrong)

/- THE SECOND FORM. 'bulk': how many values and letters a reading holds, each counted each time it is reached (what is shared counts as often as it is met; a slice's spare places count too). A statement '..UptoSaid' is the law's where the arguments, and the package variables that the reading takes, are together of bulk at most 1048576: NARROWER than '..Said'. Prove '..Said' where nothing that the law and all that it calls make is longer than what came in: it says more and counts as full. Else prove '..UptoSaid'. A law counts once. -/
mutual
def uptoBulk {H : Type} : DataW H → Nat
  | .lit (.string bytes) => bytes.length + 1
  | .lit _ => 1
  | .nil => 1
  | .ptr d => uptoBulk d + 1
  | .slice elems spare => uptoBulkAll elems + uptoBulkAll spare + 1
  | .agg parts => uptoBulkAll parts + 1
  | .iface _ d => uptoBulk d + 1
  | .map entries => uptoBulkEntries entries + 1
  | .held _ => 1
def uptoBulkAll {H : Type} : List (DataW H) → Nat
  | [] => 0
  | d :: r => uptoBulk d + uptoBulkAll r
def uptoBulkEntries {H : Type} : List (Lit × DataW H) → Nat
  | [] => 0
  | x :: r => uptoBulkEntry x + uptoBulkEntries r
def uptoBulkEntry {H : Type} : Lit × DataW H → Nat
  | (.string bytes, d) => bytes.length + uptoBulk d + 1
  | (_, d) => uptoBulk d + 1
 end
def uptoSmall : (H : Type) → List (DataW H) → Bool := fun _ ds => decide (uptoBulkAll ds ≤ 1048576)
def OpenSpec.upto (s : _root_.Go.ChangeSpec) : _root_.Go.OpenSpec := { _root_.Go.OpenSpec.ofChange s with cond := some uptoSmall }

/-- 'tympanlaw39.LeafSays', WHERE WHAT IT READS IS OF BULK AT MOST 1048576: true; the input reads as it did. -/
def leafSaysUptoRow : OpenClaim := { program := "ytfmkdccpgkbnoaa", sum := "298e414ccebf2b662498fa9080d112a046d5a126f446b21392983d1857321e44", func := "tympan/tympanlaw39.LeafSays", spec := "leafSays", apart := false, narrowed := true }
def LeafSaysUptoSaid : Prop := leafSaysUptoRow.holds Try.pinned (OpenSpec.upto leafSaysSpec)

/-- 'tympanlaw39.LeafMade', WHERE WHAT IT READS IS OF BULK AT MOST 1048576: true; the input reads as it did. -/
def leafMadeUptoRow : OpenClaim := { program := "ytfmkdccpgkbnoaa", sum := "298e414ccebf2b662498fa9080d112a046d5a126f446b21392983d1857321e44", func := "tympan/tympanlaw39.LeafMade", spec := "leafMade", apart := false, narrowed := true }
def LeafMadeUptoSaid : Prop := leafMadeUptoRow.holds Try.pinned (OpenSpec.upto leafMadeSpec)

/-- 'tympanlaw39.LeafCuts', WHERE WHAT IT READS IS OF BULK AT MOST 1048576: true; the input reads as it did. -/
def leafCutsUptoRow : OpenClaim := { program := "ytfmkdccpgkbnoaa", sum := "298e414ccebf2b662498fa9080d112a046d5a126f446b21392983d1857321e44", func := "tympan/tympanlaw39.LeafCuts", spec := "leafCuts", apart := false, narrowed := true }
def LeafCutsUptoSaid : Prop := leafCutsUptoRow.holds Try.pinned (OpenSpec.upto leafCutsSpec)

/-- 'tympanlaw39.LeafRows', WHERE WHAT IT READS IS OF BULK AT MOST 1048576: true; the input reads as it did. -/
def leafRowsUptoRow : OpenClaim := { program := "ytfmkdccpgkbnoaa", sum := "298e414ccebf2b662498fa9080d112a046d5a126f446b21392983d1857321e44", func := "tympan/tympanlaw39.LeafRows", spec := "leafRows", apart := false, narrowed := true }
def LeafRowsUptoSaid : Prop := leafRowsUptoRow.holds Try.pinned (OpenSpec.upto leafRowsSpec)

/-- 'tympanlaw39.LeafBack', WHERE WHAT IT READS IS OF BULK AT MOST 1048576: true; the input reads as it did. -/
def leafBackUptoRow : OpenClaim := { program := "ytfmkdccpgkbnoaa", sum := "298e414ccebf2b662498fa9080d112a046d5a126f446b21392983d1857321e44", func := "tympan/tympanlaw39.LeafBack", spec := "leafBack", apart := false, narrowed := true }
def LeafBackUptoSaid : Prop := leafBackUptoRow.holds Try.pinned (OpenSpec.upto leafBackSpec)

/-- 'tympanlaw39.LeafTurned', WHERE WHAT IT READS IS OF BULK AT MOST 1048576: true; the input reads as it did. -/
def leafTurnedUptoRow : OpenClaim := { program := "ytfmkdccpgkbnoaa", sum := "298e414ccebf2b662498fa9080d112a046d5a126f446b21392983d1857321e44", func := "tympan/tympanlaw39.LeafTurned", spec := "leafTurned", apart := false, narrowed := true }
def LeafTurnedUptoSaid : Prop := leafTurnedUptoRow.holds Try.pinned (OpenSpec.upto leafTurnedSpec)

/-- 'tympanlaw39.LeafOne', WHERE WHAT IT READS IS OF BULK AT MOST 1048576: true; the input reads as it did. -/
def leafOneUptoRow : OpenClaim := { program := "ytfmkdccpgkbnoaa", sum := "298e414ccebf2b662498fa9080d112a046d5a126f446b21392983d1857321e44", func := "tympan/tympanlaw39.LeafOne", spec := "leafOne", unfollowed := true, recurses := true, apart := false, narrowed := true }
def LeafOneUptoSaid : Prop := leafOneUptoRow.holds Try.pinned (OpenSpec.upto leafOneSpec)

/-- 'tympanlaw39.LeafSizes', WHERE WHAT IT READS IS OF BULK AT MOST 1048576: true; the input reads as it did. -/
def leafSizesUptoRow : OpenClaim := { program := "ytfmkdccpgkbnoaa", sum := "298e414ccebf2b662498fa9080d112a046d5a126f446b21392983d1857321e44", func := "tympan/tympanlaw39.LeafSizes", spec := "leafSizes", unfollowed := true, recurses := true, apart := false, narrowed := true }
def LeafSizesUptoSaid : Prop := leafSizesUptoRow.holds Try.pinned (OpenSpec.upto leafSizesSpec)

/-- 'tympanlaw39.LeafBoxes', WHERE WHAT IT READS IS OF BULK AT MOST 1048576: true; the input reads as it did. -/
def leafBoxesUptoRow : OpenClaim := { program := "ytfmkdccpgkbnoaa", sum := "298e414ccebf2b662498fa9080d112a046d5a126f446b21392983d1857321e44", func := "tympan/tympanlaw39.LeafBoxes", spec := "leafBoxes", unfollowed := true, recurses := true, apart := false, narrowed := true }
def LeafBoxesUptoSaid : Prop := leafBoxesUptoRow.holds Try.pinned (OpenSpec.upto leafBoxesSpec)

end Rows
end Go.Proofs.Ytfmkdccpgkbnoaa
