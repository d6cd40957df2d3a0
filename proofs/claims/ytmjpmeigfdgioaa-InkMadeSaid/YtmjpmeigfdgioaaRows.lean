/-
  No cell of these rows narrows 'for every input' (looked for: loops, veiled, ifaces, maps, wideKeys, modest, calm, conditions, laid).
  DERIVED. THE GIVEN ROWS OF THIS SEAT. 5 by the template 'for every input the law returns true; each argument reads behind the call as it read before'; 0 by the template 'total and deterministic' (their statements: YtmjpmeigfdgioaaTotals.lean).
  GIVEN WITH THE SEED: the statements are not yours to turn. If you find one false, say at which input.
  Laid BY PROGRAM, IN A SANDBOX (cutbox-rows.mjs): the forced cells as the released guide's own fill.sh prints them over the translation 26d8e0493c0790b8… (all of the seat's roots in one cut). By AI agents, Wed Nov 11 2026. No macro, syntax, notation, axiom, sorry.
-/
import Derived.Test.YtmjpmeigfdgioaaChecked
import GoSem.Claim
import GoSem.ClaimJoined
import GoSem.ClaimMapViews
import Derived.JoinedTies
import Derived.KernelRfl
namespace Go.Proofs.Ytmjpmeigfdgioaa
/- THE CELL 'sum', in the pinned program and in every row, IS THE sha256 OF THE DUMP (.gsa) THAT YtmjpmeigfdgioaaProg.lean LOADS. Nothing in Lean hashes anything: it is a label: what it is worth is what the hold of that sum in a sandbox is worth. -/
noncomputable def Try.pinned : Pinned := { name := "ytmjpmeigfdgioaa", sum := "26d8e0493c0790b875b9e550ce30f3e9cfacf514705a7b8ab934b14d8d92b858", checked := Try.checked }
namespace Rows
def none {H : Type} : Left H := { results := [], args := [] }

/-- 'tympanlaw36.InkBlends': WHATEVER THE INPUT: true; the input reads as it did. -/
def inkBlendsSpec : ChangeSpec := { name := "inkBlends", fn := fun _ => fun
  | [d1, d2, d3] => { results := [.lit (.bool true)], args := [d1, d2, d3] }
  | _ => none }
def inkBlendsRow : OpenClaim := { program := "ytmjpmeigfdgioaa", sum := "26d8e0493c0790b875b9e550ce30f3e9cfacf514705a7b8ab934b14d8d92b858", func := "tympan/tympanlaw36.InkBlends", spec := "inkBlends", apart := false }
def InkBlendsSaid : Prop := inkBlendsRow.holds Try.pinned (OpenSpec.ofChange inkBlendsSpec)

/-- ITS FALSE NEIGHBOUR: 'it returns false'. Refute it at one input. -/
def inkBlendsWrong : ChangeSpec := { name := "inkBlends", fn := fun _ => fun
  | [d1, d2, d3] => { results := [.lit (.bool false)], args := [d1, d2, d3] }
  | _ => none }
def InkBlendsWrongFalsely : Prop := inkBlendsRow.holds Try.pinned (OpenSpec.ofChange inkBlendsWrong)

/-- 'tympanlaw36.InkSides': WHATEVER THE INPUT: true; the input reads as it did. -/
def inkSidesSpec : ChangeSpec := { name := "inkSides", fn := fun _ => fun
  | [d1, d2, d3, d4, d5, d6, d7] => { results := [.lit (.bool true)], args := [d1, d2, d3, d4, d5, d6, d7] }
  | _ => none }
def inkSidesRow : OpenClaim := { program := "ytmjpmeigfdgioaa", sum := "26d8e0493c0790b875b9e550ce30f3e9cfacf514705a7b8ab934b14d8d92b858", func := "tympan/tympanlaw36.InkSides", spec := "inkSides", unfollowed := true, recurses := true, apart := false }
def InkSidesSaid : Prop := inkSidesRow.holds Try.pinned (OpenSpec.ofChange inkSidesSpec)

/-- ITS FALSE NEIGHBOUR: 'it returns false'. Refute it at one input. -/
def inkSidesWrong : ChangeSpec := { name := "inkSides", fn := fun _ => fun
  | [d1, d2, d3, d4, d5, d6, d7] => { results := [.lit (.bool false)], args := [d1, d2, d3, d4, d5, d6, d7] }
  | _ => none }
def InkSidesWrongFalsely : Prop := inkSidesRow.holds Try.pinned (OpenSpec.ofChange inkSidesWrong)

/-- 'tympanlaw36.InkCovers': WHATEVER THE INPUT: true; the input reads as it did. -/
def inkCoversSpec : ChangeSpec := { name := "inkCovers", fn := fun _ => fun
  | [d1, d2, d3, d4, d5, d6] => { results := [.lit (.bool true)], args := [d1, d2, d3, d4, d5, d6] }
  | _ => none }
def inkCoversRow : OpenClaim := { program := "ytmjpmeigfdgioaa", sum := "26d8e0493c0790b875b9e550ce30f3e9cfacf514705a7b8ab934b14d8d92b858", func := "tympan/tympanlaw36.InkCovers", spec := "inkCovers", unfollowed := true, recurses := true, apart := false }
def InkCoversSaid : Prop := inkCoversRow.holds Try.pinned (OpenSpec.ofChange inkCoversSpec)

/-- ITS FALSE NEIGHBOUR: 'it returns false'. Refute it at one input. -/
def inkCoversWrong : ChangeSpec := { name := "inkCovers", fn := fun _ => fun
  | [d1, d2, d3, d4, d5, d6] => { results := [.lit (.bool false)], args := [d1, d2, d3, d4, d5, d6] }
  | _ => none }
def InkCoversWrongFalsely : Prop := inkCoversRow.holds Try.pinned (OpenSpec.ofChange inkCoversWrong)

/-- 'tympanlaw36.InkMade': WHATEVER THE INPUT: true; the input reads as it did. -/
def inkMadeSpec : ChangeSpec := { name := "inkMade", fn := fun _ => fun
  | [d1, d2, d3, d4, d5] => { results := [.lit (.bool true)], args := [d1, d2, d3, d4, d5] }
  | _ => none }
def inkMadeRow : OpenClaim := { program := "ytmjpmeigfdgioaa", sum := "26d8e0493c0790b875b9e550ce30f3e9cfacf514705a7b8ab934b14d8d92b858", func := "tympan/tympanlaw36.InkMade", spec := "inkMade", unfollowed := true, recurses := true, apart := false }
def InkMadeSaid : Prop := inkMadeRow.holds Try.pinned (OpenSpec.ofChange inkMadeSpec)

/-- ITS FALSE NEIGHBOUR: 'it returns false'. Refute it at one input. -/
def inkMadeWrong : ChangeSpec := { name := "inkMade", fn := fun _ => fun
  | [d1, d2, d3, d4, d5] => { results := [.lit (.bool false)], args := [d1, d2, d3, d4, d5] }
  | _ => none }
def InkMadeWrongFalsely : Prop := inkMadeRow.holds Try.pinned (OpenSpec.ofChange inkMadeWrong)

/-- 'tympanlaw36.InkBands': WHATEVER THE INPUT: true; the input reads as it did. -/
def inkBandsSpec : ChangeSpec := { name := "inkBands", fn := fun _ => fun
  | [d1, d2, d3, d4, d5] => { results := [.lit (.bool true)], args := [d1, d2, d3, d4, d5] }
  | _ => none }
def inkBandsRow : OpenClaim := { program := "ytmjpmeigfdgioaa", sum := "26d8e0493c0790b875b9e550ce30f3e9cfacf514705a7b8ab934b14d8d92b858", func := "tympan/tympanlaw36.InkBands", spec := "inkBands", unfollowed := true, recurses := true, apart := false }
def InkBandsSaid : Prop := inkBandsRow.holds Try.pinned (OpenSpec.ofChange inkBandsSpec)

/-- ITS FALSE NEIGHBOUR: 'it returns false'. Refute it at one input. -/
def inkBandsWrong : ChangeSpec := { name := "inkBands", fn := fun _ => fun
  | [d1, d2, d3, d4, d5] => { results := [.lit (.bool false)], args := [d1, d2, d3, d4, d5] }
  | _ => none }
def InkBandsWrongFalsely : Prop := inkBandsRow.holds Try.pinned (OpenSpec.ofChange inkBandsWrong)

/- THE SECOND FORM. 'bulk': how many values and letters a reading holds, each counted each time it is reached (what is shared counts as often as it is met; a slice's spare places count too). A statement '..UptoSaid' is the law's where the arguments, and the package variables that the reading takes, are together of bulk at most 1048576: NARROWER than '..Said'. Prove '..Said' where nothing that the law and all that it calls make is longer than what came in: it says more and counts as full. Else prove '..UptoSaid'. A law counts once. -/
mutual
def uptoBulk {H : Type} : DataW H → Nat
  | .lit (.string bytes) => bytes.length + 1
  | .lit _ => 1
  | .nil => 1
  | .ptr d => uptoBulk d + 1
  | .slice elems spare => uptoBulkAll elems + uptoBulkAll spare + 1
  | .agg parts => uptoBulkAll parts + 1
  | .iface _ d => uptoBulk d + 1
  | .map entries => uptoBulkEntries entries + 1
  | .held _ => 1
def uptoBulkAll {H : Type} : List (DataW H) → Nat
  | [] => 0
  | d :: r => uptoBulk d + uptoBulkAll r
def uptoBulkEntries {H : Type} : List (Lit × DataW H) → Nat
  | [] => 0
  | x :: r => uptoBulkEntry x + uptoBulkEntries r
def uptoBulkEntry {H : Type} : Lit × DataW H → Nat
  | (.string bytes, d) => bytes.length + uptoBulk d + 1
  | (_, d) => uptoBulk d + 1
 end
def uptoSmall : (H : Type) → List (DataW H) → Bool := fun _ ds => decide (uptoBulkAll ds ≤ 1048576)
def OpenSpec.upto (s : _root_.Go.ChangeSpec) : _root_.Go.OpenSpec := { _root_.Go.OpenSpec.ofChange s with cond := some uptoSmall }

/-- 'tympanlaw36.InkBlends', WHERE WHAT IT READS IS OF BULK AT MOST 1048576: true; the input reads as it did. -/
def inkBlendsUptoRow : OpenClaim := { program := "ytmjpmeigfdgioaa", sum := "26d8e0493c0790b875b9e550ce30f3e9cfacf514705a7b8ab934b14d8d92b858", func := "tympan/tympanlaw36.InkBlends", spec := "inkBlends", apart := false, narrowed := true }
def InkBlendsUptoSaid : Prop := inkBlendsUptoRow.holds Try.pinned (OpenSpec.upto inkBlendsSpec)

/-- 'tympanlaw36.InkSides', WHERE WHAT IT READS IS OF BULK AT MOST 1048576: true; the input reads as it did. -/
def inkSidesUptoRow : OpenClaim := { program := "ytmjpmeigfdgioaa", sum := "26d8e0493c0790b875b9e550ce30f3e9cfacf514705a7b8ab934b14d8d92b858", func := "tympan/tympanlaw36.InkSides", spec := "inkSides", unfollowed := true, recurses := true, apart := false, narrowed := true }
def InkSidesUptoSaid : Prop := inkSidesUptoRow.holds Try.pinned (OpenSpec.upto inkSidesSpec)

/-- 'tympanlaw36.InkCovers', WHERE WHAT IT READS IS OF BULK AT MOST 1048576: true; the input reads as it did. -/
def inkCoversUptoRow : OpenClaim := { program := "ytmjpmeigfdgioaa", sum := "26d8e0493c0790b875b9e550ce30f3e9cfacf514705a7b8ab934b14d8d92b858", func := "tympan/tympanlaw36.InkCovers", spec := "inkCovers", unfollowed := true, recurses := true, apart := false, narrowed := true }
def InkCoversUptoSaid : Prop := inkCoversUptoRow.holds Try.pinned (OpenSpec.upto inkCoversSpec)

/-- 'tympanlaw36.InkMade', WHERE WHAT IT READS IS OF BULK AT MOST 1048576: true; the input reads as it did. -/
def inkMadeUptoRow : OpenClaim := { program := "ytmjpmeigfdgioaa", sum := "26d8e0493c0790b875b9e550ce30f3e9cfacf514705a7b8ab934b14d8d92b858", func := "tympan/tympanlaw36.InkMade", spec := "inkMade", unfollowed := true, recurses := true, apart := false, narrowed := true }
def InkMadeUptoSaid : Prop := inkMadeUptoRow.holds Try.pinned (OpenSpec.upto inkMadeSpec)

/-- 'tympanlaw36.InkBands', WHERE WHAT IT READS IS OF BULK AT MOST 1048576: true; the input reads as it did. -/
def inkBandsUptoRow : OpenClaim := { program := "ytmjpmeigfdgioaa", sum := "26d8e0493c0790b875b9e550ce30f3e9cfacf514705a7b8ab934b14d8d92b858", func := "tympan/tympanlaw36.InkBands", spec := "inkBands", unfollowed := true, recurses := true, apart := false, narrowed := true }
def InkBandsUptoSaid : Prop := inkBandsUptoRow.holds Try.pinned (OpenSpec.upto inkBandsSpec)

end Rows
end Go.Proofs.Ytmjpmeigfdgioaa
