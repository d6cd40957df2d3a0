/-
  No cell of these rows narrows 'for every input' (looked for: loops, veiled, ifaces, maps, wideKeys, modest, calm, conditions, laid).
  DERIVED. THE GIVEN ROWS OF THIS SEAT. 8 by the template 'for every input the law returns true; each argument reads behind the call as it read before'; 0 by the template 'total and deterministic' (their statements: YtodeebaogpepkaaTotals.lean).
  GIVEN WITH THE SEED: the statements are not yours to turn. If you find one false, say at which input.
  Laid BY PROGRAM, IN A SANDBOX (cutbox-rows.mjs): the forced cells as the released guide's own fill.sh prints them over the translation 28bc63739536ae8a… (all of the seat's roots in one cut). By AI agents, Wed Nov 11 2026. No macro, syntax, notation, axiom, sorry.
-/
import Derived.Test.YtodeebaogpepkaaChecked
import GoSem.Claim
import GoSem.ClaimJoined
import GoSem.ClaimMapViews
import Derived.JoinedTies
import Derived.KernelRfl
namespace Go.Proofs.Ytodeebaogpepkaa
/- THE CELL 'sum', in the pinned program and in every row, IS THE sha256 OF THE DUMP (.gsa) THAT YtodeebaogpepkaaProg.lean LOADS. Nothing in Lean hashes anything: it is a label: what it is worth is what the hold of that sum in a sandbox is worth. -/
noncomputable def Try.pinned : Pinned := { name := "ytodeebaogpepkaa", sum := "28bc63739536ae8a686a552eeb6b9ce94fc438027206ccc1d8ae28e58cb489e4", checked := Try.checked }
namespace Rows
def none {H : Type} : Left H := { results := [], args := [] }

/-- 'tympanlaw38.ScreenLevels': WHATEVER THE INPUT: true; the input reads as it did. -/
def screenLevelsSpec : ChangeSpec := { name := "screenLevels", fn := fun _ => fun
  | [d1, d2] => { results := [.lit (.bool true)], args := [d1, d2] }
  | _ => none }
def screenLevelsRow : OpenClaim := { program := "ytodeebaogpepkaa", sum := "28bc63739536ae8a686a552eeb6b9ce94fc438027206ccc1d8ae28e58cb489e4", func := "tympan/tympanlaw38.ScreenLevels", spec := "screenLevels", apart := false }
def ScreenLevelsSaid : Prop := screenLevelsRow.holds Try.pinned (OpenSpec.ofChange screenLevelsSpec)

/-- ITS FALSE NEIGHBOUR: 'it returns false'. Refute it at one input. -/
def screenLevelsWrong : ChangeSpec := { name := "screenLevels", fn := fun _ => fun
  | [d1, d2] => { results := [.lit (.bool false)], args := [d1, d2] }
  | _ => none }
def ScreenLevelsWrongFalsely : Prop := screenLevelsRow.holds Try.pinned (OpenSpec.ofChange screenLevelsWrong)

/-- 'tympanlaw38.ScreenTones': WHATEVER THE INPUT: true; the input reads as it did. -/
def screenTonesSpec : ChangeSpec := { name := "screenTones", fn := fun _ => fun
  | [d1, d2, d3, d4] => { results := [.lit (.bool true)], args := [d1, d2, d3, d4] }
  | _ => none }
def screenTonesRow : OpenClaim := { program := "ytodeebaogpepkaa", sum := "28bc63739536ae8a686a552eeb6b9ce94fc438027206ccc1d8ae28e58cb489e4", func := "tympan/tympanlaw38.ScreenTones", spec := "screenTones", apart := false }
def ScreenTonesSaid : Prop := screenTonesRow.holds Try.pinned (OpenSpec.ofChange screenTonesSpec)

/-- ITS FALSE NEIGHBOUR: 'it returns false'. Refute it at one input. -/
def screenTonesWrong : ChangeSpec := { name := "screenTones", fn := fun _ => fun
  | [d1, d2, d3, d4] => { results := [.lit (.bool false)], args := [d1, d2, d3, d4] }
  | _ => none }
def ScreenTonesWrongFalsely : Prop := screenTonesRow.holds Try.pinned (OpenSpec.ofChange screenTonesWrong)

/-- 'tympanlaw38.ScreenGreys': WHATEVER THE INPUT: true; the input reads as it did. -/
def screenGreysSpec : ChangeSpec := { name := "screenGreys", fn := fun _ => fun
  | [d1, d2, d3] => { results := [.lit (.bool true)], args := [d1, d2, d3] }
  | _ => none }
def screenGreysRow : OpenClaim := { program := "ytodeebaogpepkaa", sum := "28bc63739536ae8a686a552eeb6b9ce94fc438027206ccc1d8ae28e58cb489e4", func := "tympan/tympanlaw38.ScreenGreys", spec := "screenGreys", apart := false }
def ScreenGreysSaid : Prop := screenGreysRow.holds Try.pinned (OpenSpec.ofChange screenGreysSpec)

/-- ITS FALSE NEIGHBOUR: 'it returns false'. Refute it at one input. -/
def screenGreysWrong : ChangeSpec := { name := "screenGreys", fn := fun _ => fun
  | [d1, d2, d3] => { results := [.lit (.bool false)], args := [d1, d2, d3] }
  | _ => none }
def ScreenGreysWrongFalsely : Prop := screenGreysRow.holds Try.pinned (OpenSpec.ofChange screenGreysWrong)

/-- 'tympanlaw38.ScreenSays': WHATEVER THE INPUT: true; the input reads as it did. -/
def screenSaysSpec : ChangeSpec := { name := "screenSays", fn := fun _ => fun
  | [d1, d2, d3, d4, d5] => { results := [.lit (.bool true)], args := [d1, d2, d3, d4, d5] }
  | _ => none }
def screenSaysRow : OpenClaim := { program := "ytodeebaogpepkaa", sum := "28bc63739536ae8a686a552eeb6b9ce94fc438027206ccc1d8ae28e58cb489e4", func := "tympan/tympanlaw38.ScreenSays", spec := "screenSays", apart := false }
def ScreenSaysSaid : Prop := screenSaysRow.holds Try.pinned (OpenSpec.ofChange screenSaysSpec)

/-- ITS FALSE NEIGHBOUR: 'it returns false'. Refute it at one input. -/
def screenSaysWrong : ChangeSpec := { name := "screenSays", fn := fun _ => fun
  | [d1, d2, d3, d4, d5] => { results := [.lit (.bool false)], args := [d1, d2, d3, d4, d5] }
  | _ => none }
def ScreenSaysWrongFalsely : Prop := screenSaysRow.holds Try.pinned (OpenSpec.ofChange screenSaysWrong)

/-- 'tympanlaw38.ScreenDarker': WHATEVER THE INPUT: true; the input reads as it did. -/
def screenDarkerSpec : ChangeSpec := { name := "screenDarker", fn := fun _ => fun
  | [d1, d2, d3, d4, d5] => { results := [.lit (.bool true)], args := [d1, d2, d3, d4, d5] }
  | _ => none }
def screenDarkerRow : OpenClaim := { program := "ytodeebaogpepkaa", sum := "28bc63739536ae8a686a552eeb6b9ce94fc438027206ccc1d8ae28e58cb489e4", func := "tympan/tympanlaw38.ScreenDarker", spec := "screenDarker", unfollowed := true, recurses := true, apart := false }
def ScreenDarkerSaid : Prop := screenDarkerRow.holds Try.pinned (OpenSpec.ofChange screenDarkerSpec)

/-- ITS FALSE NEIGHBOUR: 'it returns false'. Refute it at one input. -/
def screenDarkerWrong : ChangeSpec := { name := "screenDarker", fn := fun _ => fun
  | [d1, d2, d3, d4, d5] => { results := [.lit (.bool false)], args := [d1, d2, d3, d4, d5] }
  | _ => none }
def ScreenDarkerWrongFalsely : Prop := screenDarkerRow.holds Try.pinned (OpenSpec.ofChange screenDarkerWrong)

/-- 'tympanlaw38.ScreenParts': WHATEVER THE INPUT: true; the input reads as it did. -/
def screenPartsSpec : ChangeSpec := { name := "screenParts", fn := fun _ => fun
  | [d1, d2, d3, d4, d5] => { results := [.lit (.bool true)], args := [d1, d2, d3, d4, d5] }
  | _ => none }
def screenPartsRow : OpenClaim := { program := "ytodeebaogpepkaa", sum := "28bc63739536ae8a686a552eeb6b9ce94fc438027206ccc1d8ae28e58cb489e4", func := "tympan/tympanlaw38.ScreenParts", spec := "screenParts", unfollowed := true, recurses := true, apart := false }
def ScreenPartsSaid : Prop := screenPartsRow.holds Try.pinned (OpenSpec.ofChange screenPartsSpec)

/-- ITS FALSE NEIGHBOUR: 'it returns false'. Refute it at one input. -/
def screenPartsWrong : ChangeSpec := { name := "screenParts", fn := fun _ => fun
  | [d1, d2, d3, d4, d5] => { results := [.lit (.bool false)], args := [d1, d2, d3, d4, d5] }
  | _ => none }
def ScreenPartsWrongFalsely : Prop := screenPartsRow.holds Try.pinned (OpenSpec.ofChange screenPartsWrong)

/-- 'tympanlaw38.ScreenFlat': WHATEVER THE INPUT: true; the input reads as it did. -/
def screenFlatSpec : ChangeSpec := { name := "screenFlat", fn := fun _ => fun
  | [d1, d2, d3] => { results := [.lit (.bool true)], args := [d1, d2, d3] }
  | _ => none }
def screenFlatRow : OpenClaim := { program := "ytodeebaogpepkaa", sum := "28bc63739536ae8a686a552eeb6b9ce94fc438027206ccc1d8ae28e58cb489e4", func := "tympan/tympanlaw38.ScreenFlat", spec := "screenFlat", unfollowed := true, recurses := true, apart := false }
def ScreenFlatSaid : Prop := screenFlatRow.holds Try.pinned (OpenSpec.ofChange screenFlatSpec)

/-- ITS FALSE NEIGHBOUR: 'it returns false'. Refute it at one input. -/
def screenFlatWrong : ChangeSpec := { name := "screenFlat", fn := fun _ => fun
  | [d1, d2, d3] => { results := [.lit (.bool false)], args := [d1, d2, d3] }
  | _ => none }
def ScreenFlatWrongFalsely : Prop := screenFlatRow.holds Try.pinned (OpenSpec.ofChange screenFlatWrong)

/-- 'tympanlaw38.ScreenBits': WHATEVER THE INPUT: true; the input reads as it did. -/
def screenBitsSpec : ChangeSpec := { name := "screenBits", fn := fun _ => fun
  | [d1, d2, d3] => { results := [.lit (.bool true)], args := [d1, d2, d3] }
  | _ => none }
def screenBitsRow : OpenClaim := { program := "ytodeebaogpepkaa", sum := "28bc63739536ae8a686a552eeb6b9ce94fc438027206ccc1d8ae28e58cb489e4", func := "tympan/tympanlaw38.ScreenBits", spec := "screenBits", unfollowed := true, recurses := true, apart := false }
def ScreenBitsSaid : Prop := screenBitsRow.holds Try.pinned (OpenSpec.ofChange screenBitsSpec)

/-- ITS FALSE NEIGHBOUR: 'it returns false'. Refute it at one input. -/
def screenBitsWrong : ChangeSpec := { name := "screenBits", fn := fun _ => fun
  | [d1, d2, d3] => { results := [.lit (.bool false)], args := [d1, d2, d3] }
  | _ => none }
def ScreenBitsWrongFalsely : Prop := screenBitsRow.holds Try.pinned (OpenSpec.ofChange screenBitsWrong)

/- THE SECOND FORM. 'bulk': how many values and letters a reading holds, each counted each time it is reached (what is shared counts as often as it is met; a slice's spare places count too). A statement '..UptoSaid' is the law's where the arguments, and the package variables that the reading takes, are together of bulk at most 1048576: NARROWER than '..Said'. Prove '..Said' where nothing that the law and all that it calls make is longer than what came in: it says more and counts as full. Else prove '..UptoSaid'. A law counts once. -/
mutual
def uptoBulk {H : Type} : DataW H → Nat
  | .lit (.string bytes) => bytes.length + 1
  | .lit _ => 1
  | .nil => 1
  | .ptr d => uptoBulk d + 1
  | .slice elems spare => uptoBulkAll elems + uptoBulkAll spare + 1
  | .agg parts => uptoBulkAll parts + 1
  | .iface _ d => uptoBulk d + 1
  | .map entries => uptoBulkEntries entries + 1
  | .held _ => 1
def uptoBulkAll {H : Type} : List (DataW H) → Nat
  | [] => 0
  | d :: r => uptoBulk d + uptoBulkAll r
def uptoBulkEntries {H : Type} : List (Lit × DataW H) → Nat
  | [] => 0
  | x :: r => uptoBulkEntry x + uptoBulkEntries r
def uptoBulkEntry {H : Type} : Lit × DataW H → Nat
  | (.string bytes, d) => bytes.length + uptoBulk d + 1
  | (_, d) => uptoBulk d + 1
 end
def uptoSmall : (H : Type) → List (DataW H) → Bool := fun _ ds => decide (uptoBulkAll ds ≤ 1048576)
def OpenSpec.upto (s : _root_.Go.ChangeSpec) : _root_.Go.OpenSpec := { _root_.Go.OpenSpec.ofChange s with cond := some uptoSmall }

/-- 'tympanlaw38.ScreenLevels', WHERE WHAT IT READS IS OF BULK AT MOST 1048576: true; the input reads as it did. -/
def screenLevelsUptoRow : OpenClaim := { program := "ytodeebaogpepkaa", sum := "28bc63739536ae8a686a552eeb6b9ce94fc438027206ccc1d8ae28e58cb489e4", func := "tympan/tympanlaw38.ScreenLevels", spec := "screenLevels", apart := false, narrowed := true }
def ScreenLevelsUptoSaid : Prop := screenLevelsUptoRow.holds Try.pinned (OpenSpec.upto screenLevelsSpec)

/-- 'tympanlaw38.ScreenTones', WHERE WHAT IT READS IS OF BULK AT MOST 1048576: true; the input reads as it did. -/
def screenTonesUptoRow : OpenClaim := { program := "ytodeebaogpepkaa", sum := "28bc63739536ae8a686a552eeb6b9ce94fc438027206ccc1d8ae28e58cb489e4", func := "tympan/tympanlaw38.ScreenTones", spec := "screenTones", apart := false, narrowed := true }
def ScreenTonesUptoSaid : Prop := screenTonesUptoRow.holds Try.pinned (OpenSpec.upto screenTonesSpec)

/-- 'tympanlaw38.ScreenGreys', WHERE WHAT IT READS IS OF BULK AT MOST 1048576: true; the input reads as it did. -/
def screenGreysUptoRow : OpenClaim := { program := "ytodeebaogpepkaa", sum := "28bc63739536ae8a686a552eeb6b9ce94fc438027206ccc1d8ae28e58cb489e4", func := "tympan/tympanlaw38.ScreenGreys", spec := "screenGreys", apart := false, narrowed := true }
def ScreenGreysUptoSaid : Prop := screenGreysUptoRow.holds Try.pinned (OpenSpec.upto screenGreysSpec)

/-- 'tympanlaw38.ScreenSays', WHERE WHAT IT READS IS OF BULK AT MOST 1048576: true; the input reads as it did. -/
def screenSaysUptoRow : OpenClaim := { program := "ytodeebaogpepkaa", sum := "28bc63739536ae8a686a552eeb6b9ce94fc438027206ccc1d8ae28e58cb489e4", func := "tympan/tympanlaw38.ScreenSays", spec := "screenSays", apart := false, narrowed := true }
def ScreenSaysUptoSaid : Prop := screenSaysUptoRow.holds Try.pinned (OpenSpec.upto screenSaysSpec)

/-- 'tympanlaw38.ScreenDarker', WHERE WHAT IT READS IS OF BULK AT MOST 1048576: true; the input reads as it did. -/
def screenDarkerUptoRow : OpenClaim := { program := "ytodeebaogpepkaa", sum := "28bc63739536ae8a686a552eeb6b9ce94fc438027206ccc1d8ae28e58cb489e4", func := "tympan/tympanlaw38.ScreenDarker", spec := "screenDarker", unfollowed := true, recurses := true, apart := false, narrowed := true }
def ScreenDarkerUptoSaid : Prop := screenDarkerUptoRow.holds Try.pinned (OpenSpec.upto screenDarkerSpec)

/-- 'tympanlaw38.ScreenParts', WHERE WHAT IT READS IS OF BULK AT MOST 1048576: true; the input reads as it did. -/
def screenPartsUptoRow : OpenClaim := { program := "ytodeebaogpepkaa", sum := "28bc63739536ae8a686a552eeb6b9ce94fc438027206ccc1d8ae28e58cb489e4", func := "tympan/tympanlaw38.ScreenParts", spec := "screenParts", unfollowed := true, recurses := true, apart := false, narrowed := true }
def ScreenPartsUptoSaid : Prop := screenPartsUptoRow.holds Try.pinned (OpenSpec.upto screenPartsSpec)

/-- 'tympanlaw38.ScreenFlat', WHERE WHAT IT READS IS OF BULK AT MOST 1048576: true; the input reads as it did. -/
def screenFlatUptoRow : OpenClaim := { program := "ytodeebaogpepkaa", sum := "28bc63739536ae8a686a552eeb6b9ce94fc438027206ccc1d8ae28e58cb489e4", func := "tympan/tympanlaw38.ScreenFlat", spec := "screenFlat", unfollowed := true, recurses := true, apart := false, narrowed := true }
def ScreenFlatUptoSaid : Prop := screenFlatUptoRow.holds Try.pinned (OpenSpec.upto screenFlatSpec)

/-- 'tympanlaw38.ScreenBits', WHERE WHAT IT READS IS OF BULK AT MOST 1048576: true; the input reads as it did. -/
def screenBitsUptoRow : OpenClaim := { program := "ytodeebaogpepkaa", sum := "28bc63739536ae8a686a552eeb6b9ce94fc438027206ccc1d8ae28e58cb489e4", func := "tympan/tympanlaw38.ScreenBits", spec := "screenBits", unfollowed := true, recurses := true, apart := false, narrowed := true }
def ScreenBitsUptoSaid : Prop := screenBitsUptoRow.holds Try.pinned (OpenSpec.upto screenBitsSpec)

end Rows
end Go.Proofs.Ytodeebaogpepkaa
