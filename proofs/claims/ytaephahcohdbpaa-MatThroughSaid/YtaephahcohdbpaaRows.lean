/-
  No cell of these rows narrows 'for every input' (looked for: loops, veiled, ifaces, maps, wideKeys, modest, calm, conditions, laid).
  DERIVED. THE GIVEN ROWS OF THIS SEAT. 12 by the template 'for every input the law returns true; each argument reads behind the call as it read before'; 0 by the template 'total and deterministic' (their statements: YtaephahcohdbpaaTotals.lean).
  GIVEN WITH THE SEED: the statements are not yours to turn. If you find one false, say at which input.
  Laid BY PROGRAM, IN A SANDBOX (cutbox-rows.mjs): the forced cells as the released guide's own fill.sh prints them over the translation 1dcdabf853b5962b… (all of the seat's roots in one cut). By AI agents, Wed Nov 11 2026. No macro, syntax, notation, axiom, sorry.
-/
import Derived.Test.YtaephahcohdbpaaChecked
import GoSem.Claim
import GoSem.ClaimJoined
import GoSem.ClaimMapViews
import Derived.JoinedTies
import Derived.KernelRfl
namespace Go.Proofs.Ytaephahcohdbpaa
/- THE CELL 'sum', in the pinned program and in every row, IS THE sha256 OF THE DUMP (.gsa) THAT YtaephahcohdbpaaProg.lean LOADS. Nothing in Lean hashes anything: it is a label: what it is worth is what the hold of that sum in a sandbox is worth. -/
noncomputable def Try.pinned : Pinned := { name := "ytaephahcohdbpaa", sum := "1dcdabf853b5962b0a5e73bc730d0ca0742e60db2ad44877c559ac1e874c363f", checked := Try.checked }
namespace Rows
def none {H : Type} : Left H := { results := [], args := [] }

/-- 'tympanlaw24.MatMakes': WHATEVER THE INPUT: true; the input reads as it did. -/
def matMakesSpec : ChangeSpec := { name := "matMakes", fn := fun _ => fun
  | [d1, d2, d3] => { results := [.lit (.bool true)], args := [d1, d2, d3] }
  | _ => none }
def matMakesRow : OpenClaim := { program := "ytaephahcohdbpaa", sum := "1dcdabf853b5962b0a5e73bc730d0ca0742e60db2ad44877c559ac1e874c363f", func := "tympan/tympanlaw24.MatMakes", spec := "matMakes", unfollowed := true, recurses := true, apart := false }
def MatMakesSaid : Prop := matMakesRow.holds Try.pinned (OpenSpec.ofChange matMakesSpec)

/-- ITS FALSE NEIGHBOUR: 'it returns false'. Refute it at one input. -/
def matMakesWrong : ChangeSpec := { name := "matMakes", fn := fun _ => fun
  | [d1, d2, d3] => { results := [.lit (.bool false)], args := [d1, d2, d3] }
  | _ => none }
def MatMakesWrongFalsely : Prop := matMakesRow.holds Try.pinned (OpenSpec.ofChange matMakesWrong)

/-- 'tympanlaw24.MatMoves': WHATEVER THE INPUT: true; the input reads as it did. -/
def matMovesSpec : ChangeSpec := { name := "matMoves", fn := fun _ => fun
  | [d1, d2] => { results := [.lit (.bool true)], args := [d1, d2] }
  | _ => none }
def matMovesRow : OpenClaim := { program := "ytaephahcohdbpaa", sum := "1dcdabf853b5962b0a5e73bc730d0ca0742e60db2ad44877c559ac1e874c363f", func := "tympan/tympanlaw24.MatMoves", spec := "matMoves", unfollowed := true, recurses := true, apart := false }
def MatMovesSaid : Prop := matMovesRow.holds Try.pinned (OpenSpec.ofChange matMovesSpec)

/-- ITS FALSE NEIGHBOUR: 'it returns false'. Refute it at one input. -/
def matMovesWrong : ChangeSpec := { name := "matMoves", fn := fun _ => fun
  | [d1, d2] => { results := [.lit (.bool false)], args := [d1, d2] }
  | _ => none }
def MatMovesWrongFalsely : Prop := matMovesRow.holds Try.pinned (OpenSpec.ofChange matMovesWrong)

/-- 'tympanlaw24.MatWide': WHATEVER THE INPUT: true; the input reads as it did. -/
def matWideSpec : ChangeSpec := { name := "matWide", fn := fun _ => fun
  | [d1, d2, d3] => { results := [.lit (.bool true)], args := [d1, d2, d3] }
  | _ => none }
def matWideRow : OpenClaim := { program := "ytaephahcohdbpaa", sum := "1dcdabf853b5962b0a5e73bc730d0ca0742e60db2ad44877c559ac1e874c363f", func := "tympan/tympanlaw24.MatWide", spec := "matWide", unfollowed := true, recurses := true, apart := false }
def MatWideSaid : Prop := matWideRow.holds Try.pinned (OpenSpec.ofChange matWideSpec)

/-- ITS FALSE NEIGHBOUR: 'it returns false'. Refute it at one input. -/
def matWideWrong : ChangeSpec := { name := "matWide", fn := fun _ => fun
  | [d1, d2, d3] => { results := [.lit (.bool false)], args := [d1, d2, d3] }
  | _ => none }
def MatWideWrongFalsely : Prop := matWideRow.holds Try.pinned (OpenSpec.ofChange matWideWrong)

/-- 'tympanlaw24.MatPages': WHATEVER THE INPUT: true; the input reads as it did. -/
def matPagesSpec : ChangeSpec := { name := "matPages", fn := fun _ => fun
  | [d1, d2, d3] => { results := [.lit (.bool true)], args := [d1, d2, d3] }
  | _ => none }
def matPagesRow : OpenClaim := { program := "ytaephahcohdbpaa", sum := "1dcdabf853b5962b0a5e73bc730d0ca0742e60db2ad44877c559ac1e874c363f", func := "tympan/tympanlaw24.MatPages", spec := "matPages", unfollowed := true, recurses := true, apart := false }
def MatPagesSaid : Prop := matPagesRow.holds Try.pinned (OpenSpec.ofChange matPagesSpec)

/-- ITS FALSE NEIGHBOUR: 'it returns false'. Refute it at one input. -/
def matPagesWrong : ChangeSpec := { name := "matPages", fn := fun _ => fun
  | [d1, d2, d3] => { results := [.lit (.bool false)], args := [d1, d2, d3] }
  | _ => none }
def MatPagesWrongFalsely : Prop := matPagesRow.holds Try.pinned (OpenSpec.ofChange matPagesWrong)

/-- 'tympanlaw24.MatThrough': WHATEVER THE INPUT: true; the input reads as it did. -/
def matThroughSpec : ChangeSpec := { name := "matThrough", fn := fun _ => fun
  | [d1, d2, d3, d4, d5] => { results := [.lit (.bool true)], args := [d1, d2, d3, d4, d5] }
  | _ => none }
def matThroughRow : OpenClaim := { program := "ytaephahcohdbpaa", sum := "1dcdabf853b5962b0a5e73bc730d0ca0742e60db2ad44877c559ac1e874c363f", func := "tympan/tympanlaw24.MatThrough", spec := "matThrough", unfollowed := true, recurses := true, apart := false }
def MatThroughSaid : Prop := matThroughRow.holds Try.pinned (OpenSpec.ofChange matThroughSpec)

/-- ITS FALSE NEIGHBOUR: 'it returns false'. Refute it at one input. -/
def matThroughWrong : ChangeSpec := { name := "matThrough", fn := fun _ => fun
  | [d1, d2, d3, d4, d5] => { results := [.lit (.bool false)], args := [d1, d2, d3, d4, d5] }
  | _ => none }
def MatThroughWrongFalsely : Prop := matThroughRow.holds Try.pinned (OpenSpec.ofChange matThroughWrong)

/-- 'tympanlaw24.MatWhole': WHATEVER THE INPUT: true; the input reads as it did. -/
def matWholeSpec : ChangeSpec := { name := "matWhole", fn := fun _ => fun
  | [d1, d2, d3, d4] => { results := [.lit (.bool true)], args := [d1, d2, d3, d4] }
  | _ => none }
def matWholeRow : OpenClaim := { program := "ytaephahcohdbpaa", sum := "1dcdabf853b5962b0a5e73bc730d0ca0742e60db2ad44877c559ac1e874c363f", func := "tympan/tympanlaw24.MatWhole", spec := "matWhole", unfollowed := true, recurses := true, apart := false }
def MatWholeSaid : Prop := matWholeRow.holds Try.pinned (OpenSpec.ofChange matWholeSpec)

/-- ITS FALSE NEIGHBOUR: 'it returns false'. Refute it at one input. -/
def matWholeWrong : ChangeSpec := { name := "matWhole", fn := fun _ => fun
  | [d1, d2, d3, d4] => { results := [.lit (.bool false)], args := [d1, d2, d3, d4] }
  | _ => none }
def MatWholeWrongFalsely : Prop := matWholeRow.holds Try.pinned (OpenSpec.ofChange matWholeWrong)

/-- 'tympanlaw24.MatParts': WHATEVER THE INPUT: true; the input reads as it did. -/
def matPartsSpec : ChangeSpec := { name := "matParts", fn := fun _ => fun
  | [d1, d2, d3, d4, d5] => { results := [.lit (.bool true)], args := [d1, d2, d3, d4, d5] }
  | _ => none }
def matPartsRow : OpenClaim := { program := "ytaephahcohdbpaa", sum := "1dcdabf853b5962b0a5e73bc730d0ca0742e60db2ad44877c559ac1e874c363f", func := "tympan/tympanlaw24.MatParts", spec := "matParts", unfollowed := true, recurses := true, apart := false }
def MatPartsSaid : Prop := matPartsRow.holds Try.pinned (OpenSpec.ofChange matPartsSpec)

/-- ITS FALSE NEIGHBOUR: 'it returns false'. Refute it at one input. -/
def matPartsWrong : ChangeSpec := { name := "matParts", fn := fun _ => fun
  | [d1, d2, d3, d4, d5] => { results := [.lit (.bool false)], args := [d1, d2, d3, d4, d5] }
  | _ => none }
def MatPartsWrongFalsely : Prop := matPartsRow.holds Try.pinned (OpenSpec.ofChange matPartsWrong)

/-- 'tympanlaw24.MatTurns': WHATEVER THE INPUT: true; the input reads as it did. -/
def matTurnsSpec : ChangeSpec := { name := "matTurns", fn := fun _ => fun
  | [d1, d2, d3] => { results := [.lit (.bool true)], args := [d1, d2, d3] }
  | _ => none }
def matTurnsRow : OpenClaim := { program := "ytaephahcohdbpaa", sum := "1dcdabf853b5962b0a5e73bc730d0ca0742e60db2ad44877c559ac1e874c363f", func := "tympan/tympanlaw24.MatTurns", spec := "matTurns", unfollowed := true, recurses := true, apart := false }
def MatTurnsSaid : Prop := matTurnsRow.holds Try.pinned (OpenSpec.ofChange matTurnsSpec)

/-- ITS FALSE NEIGHBOUR: 'it returns false'. Refute it at one input. -/
def matTurnsWrong : ChangeSpec := { name := "matTurns", fn := fun _ => fun
  | [d1, d2, d3] => { results := [.lit (.bool false)], args := [d1, d2, d3] }
  | _ => none }
def MatTurnsWrongFalsely : Prop := matTurnsRow.holds Try.pinned (OpenSpec.ofChange matTurnsWrong)

/-- 'tympanlaw24.MatBack': WHATEVER THE INPUT: true; the input reads as it did. -/
def matBackSpec : ChangeSpec := { name := "matBack", fn := fun _ => fun
  | [d1, d2, d3] => { results := [.lit (.bool true)], args := [d1, d2, d3] }
  | _ => none }
def matBackRow : OpenClaim := { program := "ytaephahcohdbpaa", sum := "1dcdabf853b5962b0a5e73bc730d0ca0742e60db2ad44877c559ac1e874c363f", func := "tympan/tympanlaw24.MatBack", spec := "matBack", unfollowed := true, recurses := true, apart := false }
def MatBackSaid : Prop := matBackRow.holds Try.pinned (OpenSpec.ofChange matBackSpec)

/-- ITS FALSE NEIGHBOUR: 'it returns false'. Refute it at one input. -/
def matBackWrong : ChangeSpec := { name := "matBack", fn := fun _ => fun
  | [d1, d2, d3] => { results := [.lit (.bool false)], args := [d1, d2, d3] }
  | _ => none }
def MatBackWrongFalsely : Prop := matBackRow.holds Try.pinned (OpenSpec.ofChange matBackWrong)

/-- 'tympanlaw24.MatSays': WHATEVER THE INPUT: true; the input reads as it did. -/
def matSaysSpec : ChangeSpec := { name := "matSays", fn := fun _ => fun
  | [d1, d2, d3, d4] => { results := [.lit (.bool true)], args := [d1, d2, d3, d4] }
  | _ => none }
def matSaysRow : OpenClaim := { program := "ytaephahcohdbpaa", sum := "1dcdabf853b5962b0a5e73bc730d0ca0742e60db2ad44877c559ac1e874c363f", func := "tympan/tympanlaw24.MatSays", spec := "matSays", unfollowed := true, recurses := true, apart := false }
def MatSaysSaid : Prop := matSaysRow.holds Try.pinned (OpenSpec.ofChange matSaysSpec)

/-- ITS FALSE NEIGHBOUR: 'it returns false'. Refute it at one input. -/
def matSaysWrong : ChangeSpec := { name := "matSays", fn := fun _ => fun
  | [d1, d2, d3, d4] => { results := [.lit (.bool false)], args := [d1, d2, d3, d4] }
  | _ => none }
def MatSaysWrongFalsely : Prop := matSaysRow.holds Try.pinned (OpenSpec.ofChange matSaysWrong)

/-- 'tympanlaw24.MatSpins': WHATEVER THE INPUT: true; the input reads as it did. -/
def matSpinsSpec : ChangeSpec := { name := "matSpins", fn := fun _ => fun
  | [d] => { results := [.lit (.bool true)], args := [d] }
  | _ => none }
def matSpinsRow : OpenClaim := { program := "ytaephahcohdbpaa", sum := "1dcdabf853b5962b0a5e73bc730d0ca0742e60db2ad44877c559ac1e874c363f", func := "tympan/tympanlaw24.MatSpins", spec := "matSpins", unfollowed := true, recurses := true, apart := false }
def MatSpinsSaid : Prop := matSpinsRow.holds Try.pinned (OpenSpec.ofChange matSpinsSpec)

/-- ITS FALSE NEIGHBOUR: 'it returns false'. Refute it at one input. -/
def matSpinsWrong : ChangeSpec := { name := "matSpins", fn := fun _ => fun
  | [d] => { results := [.lit (.bool false)], args := [d] }
  | _ => none }
def MatSpinsWrongFalsely : Prop := matSpinsRow.holds Try.pinned (OpenSpec.ofChange matSpinsWrong)

/-- 'tympanlaw24.MatQuarters': WHATEVER THE INPUT: true; the input reads as it did. -/
def matQuartersSpec : ChangeSpec := { name := "matQuarters", fn := fun _ => fun
  | [d1, d2] => { results := [.lit (.bool true)], args := [d1, d2] }
  | _ => none }
def matQuartersRow : OpenClaim := { program := "ytaephahcohdbpaa", sum := "1dcdabf853b5962b0a5e73bc730d0ca0742e60db2ad44877c559ac1e874c363f", func := "tympan/tympanlaw24.MatQuarters", spec := "matQuarters", unfollowed := true, recurses := true, apart := false }
def MatQuartersSaid : Prop := matQuartersRow.holds Try.pinned (OpenSpec.ofChange matQuartersSpec)

/-- ITS FALSE NEIGHBOUR: 'it returns false'. Refute it at one input. -/
def matQuartersWrong : ChangeSpec := { name := "matQuarters", fn := fun _ => fun
  | [d1, d2] => { results := [.lit (.bool false)], args := [d1, d2] }
  | _ => none }
def MatQuartersWrongFalsely : Prop := matQuartersRow.holds Try.pinned (OpenSpec.ofChange matQuartersWrong)

/- THE SECOND FORM. 'bulk': how many values and letters a reading holds, each counted each time it is reached (what is shared counts as often as it is met; a slice's spare places count too). A statement '..UptoSaid' is the law's where the arguments, and the package variables that the reading takes, are together of bulk at most 1048576: NARROWER than '..Said'. Prove '..Said' where nothing that the law and all that it calls make is longer than what came in: it says more and counts as full. Else prove '..UptoSaid'. A law counts once. -/
mutual
def uptoBulk {H : Type} : DataW H → Nat
  | .lit (.string bytes) => bytes.length + 1
  | .lit _ => 1
  | .nil => 1
  | .ptr d => uptoBulk d + 1
  | .slice elems spare => uptoBulkAll elems + uptoBulkAll spare + 1
  | .agg parts => uptoBulkAll parts + 1
  | .iface _ d => uptoBulk d + 1
  | .map entries => uptoBulkEntries entries + 1
  | .held _ => 1
def uptoBulkAll {H : Type} : List (DataW H) → Nat
  | [] => 0
  | d :: r => uptoBulk d + uptoBulkAll r
def uptoBulkEntries {H : Type} : List (Lit × DataW H) → Nat
  | [] => 0
  | x :: r => uptoBulkEntry x + uptoBulkEntries r
def uptoBulkEntry {H : Type} : Lit × DataW H → Nat
  | (.string bytes, d) => bytes.length + uptoBulk d + 1
  | (_, d) => uptoBulk d + 1
 end
def uptoSmall : (H : Type) → List (DataW H) → Bool := fun _ ds => decide (uptoBulkAll ds ≤ 1048576)
def OpenSpec.upto (s : _root_.Go.ChangeSpec) : _root_.Go.OpenSpec := { _root_.Go.OpenSpec.ofChange s with cond := some uptoSmall }

/-- 'tympanlaw24.MatMakes', WHERE WHAT IT READS IS OF BULK AT MOST 1048576: true; the input reads as it did. -/
def matMakesUptoRow : OpenClaim := { program := "ytaephahcohdbpaa", sum := "1dcdabf853b5962b0a5e73bc730d0ca0742e60db2ad44877c559ac1e874c363f", func := "tympan/tympanlaw24.MatMakes", spec := "matMakes", unfollowed := true, recurses := true, apart := false, narrowed := true }
def MatMakesUptoSaid : Prop := matMakesUptoRow.holds Try.pinned (OpenSpec.upto matMakesSpec)

/-- 'tympanlaw24.MatMoves', WHERE WHAT IT READS IS OF BULK AT MOST 1048576: true; the input reads as it did. -/
def matMovesUptoRow : OpenClaim := { program := "ytaephahcohdbpaa", sum := "1dcdabf853b5962b0a5e73bc730d0ca0742e60db2ad44877c559ac1e874c363f", func := "tympan/tympanlaw24.MatMoves", spec := "matMoves", unfollowed := true, recurses := true, apart := false, narrowed := true }
def MatMovesUptoSaid : Prop := matMovesUptoRow.holds Try.pinned (OpenSpec.upto matMovesSpec)

/-- 'tympanlaw24.MatWide', WHERE WHAT IT READS IS OF BULK AT MOST 1048576: true; the input reads as it did. -/
def matWideUptoRow : OpenClaim := { program := "ytaephahcohdbpaa", sum := "1dcdabf853b5962b0a5e73bc730d0ca0742e60db2ad44877c559ac1e874c363f", func := "tympan/tympanlaw24.MatWide", spec := "matWide", unfollowed := true, recurses := true, apart := false, narrowed := true }
def MatWideUptoSaid : Prop := matWideUptoRow.holds Try.pinned (OpenSpec.upto matWideSpec)

/-- 'tympanlaw24.MatPages', WHERE WHAT IT READS IS OF BULK AT MOST 1048576: true; the input reads as it did. -/
def matPagesUptoRow : OpenClaim := { program := "ytaephahcohdbpaa", sum := "1dcdabf853b5962b0a5e73bc730d0ca0742e60db2ad44877c559ac1e874c363f", func := "tympan/tympanlaw24.MatPages", spec := "matPages", unfollowed := true, recurses := true, apart := false, narrowed := true }
def MatPagesUptoSaid : Prop := matPagesUptoRow.holds Try.pinned (OpenSpec.upto matPagesSpec)

/-- 'tympanlaw24.MatThrough', WHERE WHAT IT READS IS OF BULK AT MOST 1048576: true; the input reads as it did. -/
def matThroughUptoRow : OpenClaim := { program := "ytaephahcohdbpaa", sum := "1dcdabf853b5962b0a5e73bc730d0ca0742e60db2ad44877c559ac1e874c363f", func := "tympan/tympanlaw24.MatThrough", spec := "matThrough", unfollowed := true, recurses := true, apart := false, narrowed := true }
def MatThroughUptoSaid : Prop := matThroughUptoRow.holds Try.pinned (OpenSpec.upto matThroughSpec)

/-- 'tympanlaw24.MatWhole', WHERE WHAT IT READS IS OF BULK AT MOST 1048576: true; the input reads as it did. -/
def matWholeUptoRow : OpenClaim := { program := "ytaephahcohdbpaa", sum := "1dcdabf853b5962b0a5e73bc730d0ca0742e60db2ad44877c559ac1e874c363f", func := "tympan/tympanlaw24.MatWhole", spec := "matWhole", unfollowed := true, recurses := true, apart := false, narrowed := true }
def MatWholeUptoSaid : Prop := matWholeUptoRow.holds Try.pinned (OpenSpec.upto matWholeSpec)

/-- 'tympanlaw24.MatParts', WHERE WHAT IT READS IS OF BULK AT MOST 1048576: true; the input reads as it did. -/
def matPartsUptoRow : OpenClaim := { program := "ytaephahcohdbpaa", sum := "1dcdabf853b5962b0a5e73bc730d0ca0742e60db2ad44877c559ac1e874c363f", func := "tympan/tympanlaw24.MatParts", spec := "matParts", unfollowed := true, recurses := true, apart := false, narrowed := true }
def MatPartsUptoSaid : Prop := matPartsUptoRow.holds Try.pinned (OpenSpec.upto matPartsSpec)

/-- 'tympanlaw24.MatTurns', WHERE WHAT IT READS IS OF BULK AT MOST 1048576: true; the input reads as it did. -/
def matTurnsUptoRow : OpenClaim := { program := "ytaephahcohdbpaa", sum := "1dcdabf853b5962b0a5e73bc730d0ca0742e60db2ad44877c559ac1e874c363f", func := "tympan/tympanlaw24.MatTurns", spec := "matTurns", unfollowed := true, recurses := true, apart := false, narrowed := true }
def MatTurnsUptoSaid : Prop := matTurnsUptoRow.holds Try.pinned (OpenSpec.upto matTurnsSpec)

/-- 'tympanlaw24.MatBack', WHERE WHAT IT READS IS OF BULK AT MOST 1048576: true; the input reads as it did. -/
def matBackUptoRow : OpenClaim := { program := "ytaephahcohdbpaa", sum := "1dcdabf853b5962b0a5e73bc730d0ca0742e60db2ad44877c559ac1e874c363f", func := "tympan/tympanlaw24.MatBack", spec := "matBack", unfollowed := true, recurses := true, apart := false, narrowed := true }
def MatBackUptoSaid : Prop := matBackUptoRow.holds Try.pinned (OpenSpec.upto matBackSpec)

/-- 'tympanlaw24.MatSays', WHERE WHAT IT READS IS OF BULK AT MOST 1048576: true; the input reads as it did. -/
def matSaysUptoRow : OpenClaim := { program := "ytaephahcohdbpaa", sum := "1dcdabf853b5962b0a5e73bc730d0ca0742e60db2ad44877c559ac1e874c363f", func := "tympan/tympanlaw24.MatSays", spec := "matSays", unfollowed := true, recurses := true, apart := false, narrowed := true }
def MatSaysUptoSaid : Prop := matSaysUptoRow.holds Try.pinned (OpenSpec.upto matSaysSpec)

/-- 'tympanlaw24.MatSpins', WHERE WHAT IT READS IS OF BULK AT MOST 1048576: true; the input reads as it did. -/
def matSpinsUptoRow : OpenClaim := { program := "ytaephahcohdbpaa", sum := "1dcdabf853b5962b0a5e73bc730d0ca0742e60db2ad44877c559ac1e874c363f", func := "tympan/tympanlaw24.MatSpins", spec := "matSpins", unfollowed := true, recurses := true, apart := false, narrowed := true }
def MatSpinsUptoSaid : Prop := matSpinsUptoRow.holds Try.pinned (OpenSpec.upto matSpinsSpec)

/-- 'tympanlaw24.MatQuarters', WHERE WHAT IT READS IS OF BULK AT MOST 1048576: true; the input reads as it did. -/
def matQuartersUptoRow : OpenClaim := { program := "ytaephahcohdbpaa", sum := "1dcdabf853b5962b0a5e73bc730d0ca0742e60db2ad44877c559ac1e874c363f", func := "tympan/tympanlaw24.MatQuarters", spec := "matQuarters", unfollowed := true, recurses := true, apart := false, narrowed := true }
def MatQuartersUptoSaid : Prop := matQuartersUptoRow.holds Try.pinned (OpenSpec.upto matQuartersSpec)

end Rows
end Go.Proofs.Ytaephahcohdbpaa
