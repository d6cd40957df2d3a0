/-
  No cell of these rows narrows 'for every input' (looked for: loops, veiled, ifaces, maps, wideKeys, modest, calm, conditions, laid).
  DERIVED. THE GIVEN ROWS OF THIS SEAT. 10 by the template 'for every input the law returns true; each argument reads behind the call as it read before'; 0 by the template 'total and deterministic' (their statements: YtegpjjkbbdfggaaTotals.lean).
  GIVEN WITH THE SEED: the statements are not yours to turn. If you find one false, say at which input.
  Laid BY PROGRAM, IN A SANDBOX (cutbox-rows.mjs): the forced cells as the released guide's own fill.sh prints them over the translation a7f9a3deec83814b… (all of the seat's roots in one cut). By AI agents, Wed Nov 11 2026. No macro, syntax, notation, axiom, sorry.
-/
import Derived.Test.YtegpjjkbbdfggaaChecked
import GoSem.Claim
import GoSem.ClaimJoined
import GoSem.ClaimMapViews
import Derived.JoinedTies
import Derived.KernelRfl
namespace Go.Proofs.Ytegpjjkbbdfggaa
/- THE CELL 'sum', in the pinned program and in every row, IS THE sha256 OF THE DUMP (.gsa) THAT YtegpjjkbbdfggaaProg.lean LOADS. Nothing in Lean hashes anything: it is a label: what it is worth is what the hold of that sum in a sandbox is worth. -/
noncomputable def Try.pinned : Pinned := { name := "ytegpjjkbbdfggaa", sum := "a7f9a3deec83814b7260b18e31c2a3313493738b18c7b4d57afd02d7118fb7db", checked := Try.checked }
namespace Rows
def none {H : Type} : Left H := { results := [], args := [] }

/-- 'tympanlaw37.ImageSays': WHATEVER THE INPUT: true; the input reads as it did. -/
def imageSaysSpec : ChangeSpec := { name := "imageSays", fn := fun _ => fun
  | [d1, d2, d3, d4, d5] => { results := [.lit (.bool true)], args := [d1, d2, d3, d4, d5] }
  | _ => none }
def imageSaysRow : OpenClaim := { program := "ytegpjjkbbdfggaa", sum := "a7f9a3deec83814b7260b18e31c2a3313493738b18c7b4d57afd02d7118fb7db", func := "tympan/tympanlaw37.ImageSays", spec := "imageSays", unfollowed := true, recurses := true, apart := false }
def ImageSaysSaid : Prop := imageSaysRow.holds Try.pinned (OpenSpec.ofChange imageSaysSpec)

/-- ITS FALSE NEIGHBOUR: 'it returns false'. Refute it at one input. -/
def imageSaysWrong : ChangeSpec := { name := "imageSays", fn := fun _ => fun
  | [d1, d2, d3, d4, d5] => { results := [.lit (.bool false)], args := [d1, d2, d3, d4, d5] }
  | _ => none }
def ImageSaysWrongFalsely : Prop := imageSaysRow.holds Try.pinned (OpenSpec.ofChange imageSaysWrong)

/-- 'tympanlaw37.ImageBack': WHATEVER THE INPUT: true; the input reads as it did. -/
def imageBackSpec : ChangeSpec := { name := "imageBack", fn := fun _ => fun
  | [d1, d2, d3, d4, d5] => { results := [.lit (.bool true)], args := [d1, d2, d3, d4, d5] }
  | _ => none }
def imageBackRow : OpenClaim := { program := "ytegpjjkbbdfggaa", sum := "a7f9a3deec83814b7260b18e31c2a3313493738b18c7b4d57afd02d7118fb7db", func := "tympan/tympanlaw37.ImageBack", spec := "imageBack", apart := false }
def ImageBackSaid : Prop := imageBackRow.holds Try.pinned (OpenSpec.ofChange imageBackSpec)

/-- ITS FALSE NEIGHBOUR: 'it returns false'. Refute it at one input. -/
def imageBackWrong : ChangeSpec := { name := "imageBack", fn := fun _ => fun
  | [d1, d2, d3, d4, d5] => { results := [.lit (.bool false)], args := [d1, d2, d3, d4, d5] }
  | _ => none }
def ImageBackWrongFalsely : Prop := imageBackRow.holds Try.pinned (OpenSpec.ofChange imageBackWrong)

/-- 'tympanlaw37.ImageTiles': WHATEVER THE INPUT: true; the input reads as it did. -/
def imageTilesSpec : ChangeSpec := { name := "imageTiles", fn := fun _ => fun
  | [d1, d2, d3, d4, d5, d6] => { results := [.lit (.bool true)], args := [d1, d2, d3, d4, d5, d6] }
  | _ => none }
def imageTilesRow : OpenClaim := { program := "ytegpjjkbbdfggaa", sum := "a7f9a3deec83814b7260b18e31c2a3313493738b18c7b4d57afd02d7118fb7db", func := "tympan/tympanlaw37.ImageTiles", spec := "imageTiles", unfollowed := true, recurses := true, apart := false }
def ImageTilesSaid : Prop := imageTilesRow.holds Try.pinned (OpenSpec.ofChange imageTilesSpec)

/-- ITS FALSE NEIGHBOUR: 'it returns false'. Refute it at one input. -/
def imageTilesWrong : ChangeSpec := { name := "imageTiles", fn := fun _ => fun
  | [d1, d2, d3, d4, d5, d6] => { results := [.lit (.bool false)], args := [d1, d2, d3, d4, d5, d6] }
  | _ => none }
def ImageTilesWrongFalsely : Prop := imageTilesRow.holds Try.pinned (OpenSpec.ofChange imageTilesWrong)

/-- 'tympanlaw37.ImageStraight': WHATEVER THE INPUT: true; the input reads as it did. -/
def imageStraightSpec : ChangeSpec := { name := "imageStraight", fn := fun _ => fun
  | [d1, d2, d3, d4, d5] => { results := [.lit (.bool true)], args := [d1, d2, d3, d4, d5] }
  | _ => none }
def imageStraightRow : OpenClaim := { program := "ytegpjjkbbdfggaa", sum := "a7f9a3deec83814b7260b18e31c2a3313493738b18c7b4d57afd02d7118fb7db", func := "tympan/tympanlaw37.ImageStraight", spec := "imageStraight", unfollowed := true, recurses := true, apart := false }
def ImageStraightSaid : Prop := imageStraightRow.holds Try.pinned (OpenSpec.ofChange imageStraightSpec)

/-- ITS FALSE NEIGHBOUR: 'it returns false'. Refute it at one input. -/
def imageStraightWrong : ChangeSpec := { name := "imageStraight", fn := fun _ => fun
  | [d1, d2, d3, d4, d5] => { results := [.lit (.bool false)], args := [d1, d2, d3, d4, d5] }
  | _ => none }
def ImageStraightWrongFalsely : Prop := imageStraightRow.holds Try.pinned (OpenSpec.ofChange imageStraightWrong)

/-- 'tympanlaw37.ImagePaints': WHATEVER THE INPUT: true; the input reads as it did. -/
def imagePaintsSpec : ChangeSpec := { name := "imagePaints", fn := fun _ => fun
  | [d1, d2, d3, d4, d5, d6] => { results := [.lit (.bool true)], args := [d1, d2, d3, d4, d5, d6] }
  | _ => none }
def imagePaintsRow : OpenClaim := { program := "ytegpjjkbbdfggaa", sum := "a7f9a3deec83814b7260b18e31c2a3313493738b18c7b4d57afd02d7118fb7db", func := "tympan/tympanlaw37.ImagePaints", spec := "imagePaints", unfollowed := true, recurses := true, apart := false }
def ImagePaintsSaid : Prop := imagePaintsRow.holds Try.pinned (OpenSpec.ofChange imagePaintsSpec)

/-- ITS FALSE NEIGHBOUR: 'it returns false'. Refute it at one input. -/
def imagePaintsWrong : ChangeSpec := { name := "imagePaints", fn := fun _ => fun
  | [d1, d2, d3, d4, d5, d6] => { results := [.lit (.bool false)], args := [d1, d2, d3, d4, d5, d6] }
  | _ => none }
def ImagePaintsWrongFalsely : Prop := imagePaintsRow.holds Try.pinned (OpenSpec.ofChange imagePaintsWrong)

/-- 'tympanlaw37.ImageSpins': WHATEVER THE INPUT: true; the input reads as it did. -/
def imageSpinsSpec : ChangeSpec := { name := "imageSpins", fn := fun _ => fun
  | [d1, d2, d3, d4, d5] => { results := [.lit (.bool true)], args := [d1, d2, d3, d4, d5] }
  | _ => none }
def imageSpinsRow : OpenClaim := { program := "ytegpjjkbbdfggaa", sum := "a7f9a3deec83814b7260b18e31c2a3313493738b18c7b4d57afd02d7118fb7db", func := "tympan/tympanlaw37.ImageSpins", spec := "imageSpins", unfollowed := true, recurses := true, apart := false }
def ImageSpinsSaid : Prop := imageSpinsRow.holds Try.pinned (OpenSpec.ofChange imageSpinsSpec)

/-- ITS FALSE NEIGHBOUR: 'it returns false'. Refute it at one input. -/
def imageSpinsWrong : ChangeSpec := { name := "imageSpins", fn := fun _ => fun
  | [d1, d2, d3, d4, d5] => { results := [.lit (.bool false)], args := [d1, d2, d3, d4, d5] }
  | _ => none }
def ImageSpinsWrongFalsely : Prop := imageSpinsRow.holds Try.pinned (OpenSpec.ofChange imageSpinsWrong)

/-- 'tympanlaw37.ImageClips': WHATEVER THE INPUT: true; the input reads as it did. -/
def imageClipsSpec : ChangeSpec := { name := "imageClips", fn := fun _ => fun
  | [d1, d2, d3, d4, d5, d6] => { results := [.lit (.bool true)], args := [d1, d2, d3, d4, d5, d6] }
  | _ => none }
def imageClipsRow : OpenClaim := { program := "ytegpjjkbbdfggaa", sum := "a7f9a3deec83814b7260b18e31c2a3313493738b18c7b4d57afd02d7118fb7db", func := "tympan/tympanlaw37.ImageClips", spec := "imageClips", unfollowed := true, recurses := true, apart := false }
def ImageClipsSaid : Prop := imageClipsRow.holds Try.pinned (OpenSpec.ofChange imageClipsSpec)

/-- ITS FALSE NEIGHBOUR: 'it returns false'. Refute it at one input. -/
def imageClipsWrong : ChangeSpec := { name := "imageClips", fn := fun _ => fun
  | [d1, d2, d3, d4, d5, d6] => { results := [.lit (.bool false)], args := [d1, d2, d3, d4, d5, d6] }
  | _ => none }
def ImageClipsWrongFalsely : Prop := imageClipsRow.holds Try.pinned (OpenSpec.ofChange imageClipsWrong)

/-- 'tympanlaw37.ImageMade': WHATEVER THE INPUT: true; the input reads as it did. -/
def imageMadeSpec : ChangeSpec := { name := "imageMade", fn := fun _ => fun
  | [d1, d2, d3, d4, d5] => { results := [.lit (.bool true)], args := [d1, d2, d3, d4, d5] }
  | _ => none }
def imageMadeRow : OpenClaim := { program := "ytegpjjkbbdfggaa", sum := "a7f9a3deec83814b7260b18e31c2a3313493738b18c7b4d57afd02d7118fb7db", func := "tympan/tympanlaw37.ImageMade", spec := "imageMade", unfollowed := true, recurses := true, apart := false }
def ImageMadeSaid : Prop := imageMadeRow.holds Try.pinned (OpenSpec.ofChange imageMadeSpec)

/-- ITS FALSE NEIGHBOUR: 'it returns false'. Refute it at one input. -/
def imageMadeWrong : ChangeSpec := { name := "imageMade", fn := fun _ => fun
  | [d1, d2, d3, d4, d5] => { results := [.lit (.bool false)], args := [d1, d2, d3, d4, d5] }
  | _ => none }
def ImageMadeWrongFalsely : Prop := imageMadeRow.holds Try.pinned (OpenSpec.ofChange imageMadeWrong)

/-- 'tympanlaw37.ImageParts': WHATEVER THE INPUT: true; the input reads as it did. -/
def imagePartsSpec : ChangeSpec := { name := "imageParts", fn := fun _ => fun
  | [d1, d2, d3, d4, d5] => { results := [.lit (.bool true)], args := [d1, d2, d3, d4, d5] }
  | _ => none }
def imagePartsRow : OpenClaim := { program := "ytegpjjkbbdfggaa", sum := "a7f9a3deec83814b7260b18e31c2a3313493738b18c7b4d57afd02d7118fb7db", func := "tympan/tympanlaw37.ImageParts", spec := "imageParts", unfollowed := true, recurses := true, apart := false }
def ImagePartsSaid : Prop := imagePartsRow.holds Try.pinned (OpenSpec.ofChange imagePartsSpec)

/-- ITS FALSE NEIGHBOUR: 'it returns false'. Refute it at one input. -/
def imagePartsWrong : ChangeSpec := { name := "imageParts", fn := fun _ => fun
  | [d1, d2, d3, d4, d5] => { results := [.lit (.bool false)], args := [d1, d2, d3, d4, d5] }
  | _ => none }
def ImagePartsWrongFalsely : Prop := imagePartsRow.holds Try.pinned (OpenSpec.ofChange imagePartsWrong)

/-- 'tympanlaw37.ImageInks': WHATEVER THE INPUT: true; the input reads as it did. -/
def imageInksSpec : ChangeSpec := { name := "imageInks", fn := fun _ => fun
  | [d1, d2] => { results := [.lit (.bool true)], args := [d1, d2] }
  | _ => none }
def imageInksRow : OpenClaim := { program := "ytegpjjkbbdfggaa", sum := "a7f9a3deec83814b7260b18e31c2a3313493738b18c7b4d57afd02d7118fb7db", func := "tympan/tympanlaw37.ImageInks", spec := "imageInks", unfollowed := true, recurses := true, apart := false }
def ImageInksSaid : Prop := imageInksRow.holds Try.pinned (OpenSpec.ofChange imageInksSpec)

/-- ITS FALSE NEIGHBOUR: 'it returns false'. Refute it at one input. -/
def imageInksWrong : ChangeSpec := { name := "imageInks", fn := fun _ => fun
  | [d1, d2] => { results := [.lit (.bool false)], args := [d1, d2] }
  | _ => none }
def ImageInksWrongFalsely : Prop := imageInksRow.holds Try.pinned (OpenSpec.ofChange imageInksWrong)

/- THE SECOND FORM. 'bulk': how many values and letters a reading holds, each counted each time it is reached (what is shared counts as often as it is met; a slice's spare places count too). A statement '..UptoSaid' is the law's where the arguments, and the package variables that the reading takes, are together of bulk at most 1048576: NARROWER than '..Said'. Prove '..Said' where nothing that the law and all that it calls make is longer than what came in: it says more and counts as full. Else prove '..UptoSaid'. A law counts once. -/
mutual
def uptoBulk {H : Type} : DataW H → Nat
  | .lit (.string bytes) => bytes.length + 1
  | .lit _ => 1
  | .nil => 1
  | .ptr d => uptoBulk d + 1
  | .slice elems spare => uptoBulkAll elems + uptoBulkAll spare + 1
  | .agg parts => uptoBulkAll parts + 1
  | .iface _ d => uptoBulk d + 1
  | .map entries => uptoBulkEntries entries + 1
  | .held _ => 1
def uptoBulkAll {H : Type} : List (DataW H) → Nat
  | [] => 0
  | d :: r => uptoBulk d + uptoBulkAll r
def uptoBulkEntries {H : Type} : List (Lit × DataW H) → Nat
  | [] => 0
  | x :: r => uptoBulkEntry x + uptoBulkEntries r
def uptoBulkEntry {H : Type} : Lit × DataW H → Nat
  | (.string bytes, d) => bytes.length + uptoBulk d + 1
  | (_, d) => uptoBulk d + 1
 end
def uptoSmall : (H : Type) → List (DataW H) → Bool := fun _ ds => decide (uptoBulkAll ds ≤ 1048576)
def OpenSpec.upto (s : _root_.Go.ChangeSpec) : _root_.Go.OpenSpec := { _root_.Go.OpenSpec.ofChange s with cond := some uptoSmall }

/-- 'tympanlaw37.ImageSays', WHERE WHAT IT READS IS OF BULK AT MOST 1048576: true; the input reads as it did. -/
def imageSaysUptoRow : OpenClaim := { program := "ytegpjjkbbdfggaa", sum := "a7f9a3deec83814b7260b18e31c2a3313493738b18c7b4d57afd02d7118fb7db", func := "tympan/tympanlaw37.ImageSays", spec := "imageSays", unfollowed := true, recurses := true, apart := false, narrowed := true }
def ImageSaysUptoSaid : Prop := imageSaysUptoRow.holds Try.pinned (OpenSpec.upto imageSaysSpec)

/-- 'tympanlaw37.ImageBack', WHERE WHAT IT READS IS OF BULK AT MOST 1048576: true; the input reads as it did. -/
def imageBackUptoRow : OpenClaim := { program := "ytegpjjkbbdfggaa", sum := "a7f9a3deec83814b7260b18e31c2a3313493738b18c7b4d57afd02d7118fb7db", func := "tympan/tympanlaw37.ImageBack", spec := "imageBack", apart := false, narrowed := true }
def ImageBackUptoSaid : Prop := imageBackUptoRow.holds Try.pinned (OpenSpec.upto imageBackSpec)

/-- 'tympanlaw37.ImageTiles', WHERE WHAT IT READS IS OF BULK AT MOST 1048576: true; the input reads as it did. -/
def imageTilesUptoRow : OpenClaim := { program := "ytegpjjkbbdfggaa", sum := "a7f9a3deec83814b7260b18e31c2a3313493738b18c7b4d57afd02d7118fb7db", func := "tympan/tympanlaw37.ImageTiles", spec := "imageTiles", unfollowed := true, recurses := true, apart := false, narrowed := true }
def ImageTilesUptoSaid : Prop := imageTilesUptoRow.holds Try.pinned (OpenSpec.upto imageTilesSpec)

/-- 'tympanlaw37.ImageStraight', WHERE WHAT IT READS IS OF BULK AT MOST 1048576: true; the input reads as it did. -/
def imageStraightUptoRow : OpenClaim := { program := "ytegpjjkbbdfggaa", sum := "a7f9a3deec83814b7260b18e31c2a3313493738b18c7b4d57afd02d7118fb7db", func := "tympan/tympanlaw37.ImageStraight", spec := "imageStraight", unfollowed := true, recurses := true, apart := false, narrowed := true }
def ImageStraightUptoSaid : Prop := imageStraightUptoRow.holds Try.pinned (OpenSpec.upto imageStraightSpec)

/-- 'tympanlaw37.ImagePaints', WHERE WHAT IT READS IS OF BULK AT MOST 1048576: true; the input reads as it did. -/
def imagePaintsUptoRow : OpenClaim := { program := "ytegpjjkbbdfggaa", sum := "a7f9a3deec83814b7260b18e31c2a3313493738b18c7b4d57afd02d7118fb7db", func := "tympan/tympanlaw37.ImagePaints", spec := "imagePaints", unfollowed := true, recurses := true, apart := false, narrowed := true }
def ImagePaintsUptoSaid : Prop := imagePaintsUptoRow.holds Try.pinned (OpenSpec.upto imagePaintsSpec)

/-- 'tympanlaw37.ImageSpins', WHERE WHAT IT READS IS OF BULK AT MOST 1048576: true; the input reads as it did. -/
def imageSpinsUptoRow : OpenClaim := { program := "ytegpjjkbbdfggaa", sum := "a7f9a3deec83814b7260b18e31c2a3313493738b18c7b4d57afd02d7118fb7db", func := "tympan/tympanlaw37.ImageSpins", spec := "imageSpins", unfollowed := true, recurses := true, apart := false, narrowed := true }
def ImageSpinsUptoSaid : Prop := imageSpinsUptoRow.holds Try.pinned (OpenSpec.upto imageSpinsSpec)

/-- 'tympanlaw37.ImageClips', WHERE WHAT IT READS IS OF BULK AT MOST 1048576: true; the input reads as it did. -/
def imageClipsUptoRow : OpenClaim := { program := "ytegpjjkbbdfggaa", sum := "a7f9a3deec83814b7260b18e31c2a3313493738b18c7b4d57afd02d7118fb7db", func := "tympan/tympanlaw37.ImageClips", spec := "imageClips", unfollowed := true, recurses := true, apart := false, narrowed := true }
def ImageClipsUptoSaid : Prop := imageClipsUptoRow.holds Try.pinned (OpenSpec.upto imageClipsSpec)

/-- 'tympanlaw37.ImageMade', WHERE WHAT IT READS IS OF BULK AT MOST 1048576: true; the input reads as it did. -/
def imageMadeUptoRow : OpenClaim := { program := "ytegpjjkbbdfggaa", sum := "a7f9a3deec83814b7260b18e31c2a3313493738b18c7b4d57afd02d7118fb7db", func := "tympan/tympanlaw37.ImageMade", spec := "imageMade", unfollowed := true, recurses := true, apart := false, narrowed := true }
def ImageMadeUptoSaid : Prop := imageMadeUptoRow.holds Try.pinned (OpenSpec.upto imageMadeSpec)

/-- 'tympanlaw37.ImageParts', WHERE WHAT IT READS IS OF BULK AT MOST 1048576: true; the input reads as it did. -/
def imagePartsUptoRow : OpenClaim := { program := "ytegpjjkbbdfggaa", sum := "a7f9a3deec83814b7260b18e31c2a3313493738b18c7b4d57afd02d7118fb7db", func := "tympan/tympanlaw37.ImageParts", spec := "imageParts", unfollowed := true, recurses := true, apart := false, narrowed := true }
def ImagePartsUptoSaid : Prop := imagePartsUptoRow.holds Try.pinned (OpenSpec.upto imagePartsSpec)

/-- 'tympanlaw37.ImageInks', WHERE WHAT IT READS IS OF BULK AT MOST 1048576: true; the input reads as it did. -/
def imageInksUptoRow : OpenClaim := { program := "ytegpjjkbbdfggaa", sum := "a7f9a3deec83814b7260b18e31c2a3313493738b18c7b4d57afd02d7118fb7db", func := "tympan/tympanlaw37.ImageInks", spec := "imageInks", unfollowed := true, recurses := true, apart := false, narrowed := true }
def ImageInksUptoSaid : Prop := imageInksUptoRow.holds Try.pinned (OpenSpec.upto imageInksSpec)

end Rows
end Go.Proofs.Ytegpjjkbbdfggaa
