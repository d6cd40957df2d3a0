/-
  No cell of these rows narrows 'for every input' (looked for: loops, veiled, ifaces, maps, wideKeys, modest, calm, conditions, laid).
  DERIVED. THE GIVEN ROWS OF THIS SEAT. 6 by the template 'for every input the law returns true; each argument reads behind the call as it read before'; 0 by the template 'total and deterministic' (their statements: YtdonjnngohmknaaTotals.lean).
  GIVEN WITH THE SEED: the statements are not yours to turn. If you find one false, say at which input.
  Laid BY PROGRAM, IN A SANDBOX (cutbox-rows.mjs): the forced cells as the released guide's own fill.sh prints them over the translation 0cbc1fe5ad93ef53… (all of the seat's roots in one cut). By AI agents, Wed Nov 11 2026. No macro, syntax, notation, axiom, sorry.
-/
import Derived.Test.YtdonjnngohmknaaChecked
import GoSem.Claim
import GoSem.ClaimJoined
import GoSem.ClaimMapViews
import Derived.JoinedTies
import Derived.KernelRfl
namespace Go.Proofs.Ytdonjnngohmknaa
/- THE CELL 'sum', in the pinned program and in every row, IS THE sha256 OF THE DUMP (.gsa) THAT YtdonjnngohmknaaProg.lean LOADS. Nothing in Lean hashes anything: it is a label: what it is worth is what the hold of that sum in a sandbox is worth. -/
noncomputable def Try.pinned : Pinned := { name := "ytdonjnngohmknaa", sum := "0cbc1fe5ad93ef531f5fe108c3abaf736932bd59d8b97b558c03e32b09a31f33", checked := Try.checked }
namespace Rows
def none {H : Type} : Left H := { results := [], args := [] }

/-- 'tympanlaw7.QuoteTells': WHATEVER THE INPUT: true; the input reads as it did. -/
def quoteTellsSpec : ChangeSpec := { name := "quoteTells", fn := fun _ => fun
  | [d1, d2] => { results := [.lit (.bool true)], args := [d1, d2] }
  | _ => none }
def quoteTellsRow : OpenClaim := { program := "ytdonjnngohmknaa", sum := "0cbc1fe5ad93ef531f5fe108c3abaf736932bd59d8b97b558c03e32b09a31f33", func := "tympan/tympanlaw7.QuoteTells", spec := "quoteTells", apart := false }
def QuoteTellsSaid : Prop := quoteTellsRow.holds Try.pinned (OpenSpec.ofChange quoteTellsSpec)

/-- ITS FALSE NEIGHBOUR: 'it returns false'. Refute it at one input. -/
def quoteTellsWrong : ChangeSpec := { name := "quoteTells", fn := fun _ => fun
  | [d1, d2] => { results := [.lit (.bool false)], args := [d1, d2] }
  | _ => none }
def QuoteTellsWrongFalsely : Prop := quoteTellsRow.holds Try.pinned (OpenSpec.ofChange quoteTellsWrong)

/-- 'tympanlaw7.QuoteBack': WHATEVER THE INPUT: true; the input reads as it did. -/
def quoteBackSpec : ChangeSpec := { name := "quoteBack", fn := fun _ => fun
  | [d1, d2, d3, d4] => { results := [.lit (.bool true)], args := [d1, d2, d3, d4] }
  | _ => none }
def quoteBackRow : OpenClaim := { program := "ytdonjnngohmknaa", sum := "0cbc1fe5ad93ef531f5fe108c3abaf736932bd59d8b97b558c03e32b09a31f33", func := "tympan/tympanlaw7.QuoteBack", spec := "quoteBack", apart := false }
def QuoteBackSaid : Prop := quoteBackRow.holds Try.pinned (OpenSpec.ofChange quoteBackSpec)

/-- ITS FALSE NEIGHBOUR: 'it returns false'. Refute it at one input. -/
def quoteBackWrong : ChangeSpec := { name := "quoteBack", fn := fun _ => fun
  | [d1, d2, d3, d4] => { results := [.lit (.bool false)], args := [d1, d2, d3, d4] }
  | _ => none }
def QuoteBackWrongFalsely : Prop := quoteBackRow.holds Try.pinned (OpenSpec.ofChange quoteBackWrong)

/-- 'tympanlaw7.QuoteNested': WHATEVER THE INPUT: true; the input reads as it did. -/
def quoteNestedSpec : ChangeSpec := { name := "quoteNested", fn := fun _ => fun
  | [d] => { results := [.lit (.bool true)], args := [d] }
  | _ => none }
def quoteNestedRow : OpenClaim := { program := "ytdonjnngohmknaa", sum := "0cbc1fe5ad93ef531f5fe108c3abaf736932bd59d8b97b558c03e32b09a31f33", func := "tympan/tympanlaw7.QuoteNested", spec := "quoteNested", apart := false }
def QuoteNestedSaid : Prop := quoteNestedRow.holds Try.pinned (OpenSpec.ofChange quoteNestedSpec)

/-- ITS FALSE NEIGHBOUR: 'it returns false'. Refute it at one input. -/
def quoteNestedWrong : ChangeSpec := { name := "quoteNested", fn := fun _ => fun
  | [d] => { results := [.lit (.bool false)], args := [d] }
  | _ => none }
def QuoteNestedWrongFalsely : Prop := quoteNestedRow.holds Try.pinned (OpenSpec.ofChange quoteNestedWrong)

/-- 'tympanlaw7.QuoteLoose': WHATEVER THE INPUT: true; the input reads as it did. -/
def quoteLooseSpec : ChangeSpec := { name := "quoteLoose", fn := fun _ => fun
  | [d1, d2, d3] => { results := [.lit (.bool true)], args := [d1, d2, d3] }
  | _ => none }
def quoteLooseRow : OpenClaim := { program := "ytdonjnngohmknaa", sum := "0cbc1fe5ad93ef531f5fe108c3abaf736932bd59d8b97b558c03e32b09a31f33", func := "tympan/tympanlaw7.QuoteLoose", spec := "quoteLoose", apart := false }
def QuoteLooseSaid : Prop := quoteLooseRow.holds Try.pinned (OpenSpec.ofChange quoteLooseSpec)

/-- ITS FALSE NEIGHBOUR: 'it returns false'. Refute it at one input. -/
def quoteLooseWrong : ChangeSpec := { name := "quoteLoose", fn := fun _ => fun
  | [d1, d2, d3] => { results := [.lit (.bool false)], args := [d1, d2, d3] }
  | _ => none }
def QuoteLooseWrongFalsely : Prop := quoteLooseRow.holds Try.pinned (OpenSpec.ofChange quoteLooseWrong)

/-- 'tympanlaw7.QuoteEight': WHATEVER THE INPUT: true; the input reads as it did. -/
def quoteEightSpec : ChangeSpec := { name := "quoteEight", fn := fun _ => fun
  | [d1, d2, d3] => { results := [.lit (.bool true)], args := [d1, d2, d3] }
  | _ => none }
def quoteEightRow : OpenClaim := { program := "ytdonjnngohmknaa", sum := "0cbc1fe5ad93ef531f5fe108c3abaf736932bd59d8b97b558c03e32b09a31f33", func := "tympan/tympanlaw7.QuoteEight", spec := "quoteEight", recurses := true, apart := false }
def QuoteEightSaid : Prop := quoteEightRow.holds Try.pinned (OpenSpec.ofChange quoteEightSpec)

/-- ITS FALSE NEIGHBOUR: 'it returns false'. Refute it at one input. -/
def quoteEightWrong : ChangeSpec := { name := "quoteEight", fn := fun _ => fun
  | [d1, d2, d3] => { results := [.lit (.bool false)], args := [d1, d2, d3] }
  | _ => none }
def QuoteEightWrongFalsely : Prop := quoteEightRow.holds Try.pinned (OpenSpec.ofChange quoteEightWrong)

/-- 'tympanlaw7.QuoteMost': WHATEVER THE INPUT: true; the input reads as it did. -/
def quoteMostSpec : ChangeSpec := { name := "quoteMost", fn := fun _ => fun
  | [d1, d2, d3] => { results := [.lit (.bool true)], args := [d1, d2, d3] }
  | _ => none }
def quoteMostRow : OpenClaim := { program := "ytdonjnngohmknaa", sum := "0cbc1fe5ad93ef531f5fe108c3abaf736932bd59d8b97b558c03e32b09a31f33", func := "tympan/tympanlaw7.QuoteMost", spec := "quoteMost", apart := false }
def QuoteMostSaid : Prop := quoteMostRow.holds Try.pinned (OpenSpec.ofChange quoteMostSpec)

/-- ITS FALSE NEIGHBOUR: 'it returns false'. Refute it at one input. -/
def quoteMostWrong : ChangeSpec := { name := "quoteMost", fn := fun _ => fun
  | [d1, d2, d3] => { results := [.lit (.bool false)], args := [d1, d2, d3] }
  | _ => none }
def QuoteMostWrongFalsely : Prop := quoteMostRow.holds Try.pinned (OpenSpec.ofChange quoteMostWrong)

/- THE SECOND FORM. 'bulk': how many values and letters a reading holds, each counted each time it is reached (what is shared counts as often as it is met; a slice's spare places count too). A statement '..UptoSaid' is the law's where the arguments, and the package variables that the reading takes, are together of bulk at most 1048576: NARROWER than '..Said'. Prove '..Said' where nothing that the law and all that it calls make is longer than what came in: it says more and counts as full. Else prove '..UptoSaid'. A law counts once. -/
mutual
def uptoBulk {H : Type} : DataW H → Nat
  | .lit (.string bytes) => bytes.length + 1
  | .lit _ => 1
  | .nil => 1
  | .ptr d => uptoBulk d + 1
  | .slice elems spare => uptoBulkAll elems + uptoBulkAll spare + 1
  | .agg parts => uptoBulkAll parts + 1
  | .iface _ d => uptoBulk d + 1
  | .map entries => uptoBulkEntries entries + 1
  | .held _ => 1
def uptoBulkAll {H : Type} : List (DataW H) → Nat
  | [] => 0
  | d :: r => uptoBulk d + uptoBulkAll r
def uptoBulkEntries {H : Type} : List (Lit × DataW H) → Nat
  | [] => 0
  | x :: r => uptoBulkEntry x + uptoBulkEntries r
def uptoBulkEntry {H : Type} : Lit × DataW H → Nat
  | (.string bytes, d) => bytes.length + uptoBulk d + 1
  | (_, d) => uptoBulk d + 1
 end
def uptoSmall : (H : Type) → List (DataW H) → Bool := fun _ ds => decide (uptoBulkAll ds ≤ 1048576)
def OpenSpec.upto (s : _root_.Go.ChangeSpec) : _root_.Go.OpenSpec := { _root_.Go.OpenSpec.ofChange s with cond := some uptoSmall }

/-- 'tympanlaw7.QuoteTells', WHERE WHAT IT READS IS OF BULK AT MOST 1048576: true; the input reads as it did. -/
def quoteTellsUptoRow : OpenClaim := { program := "ytdonjnngohmknaa", sum := "0cbc1fe5ad93ef531f5fe108c3abaf736932bd59d8b97b558c03e32b09a31f33", func := "tympan/tympanlaw7.QuoteTells", spec := "quoteTells", apart := false, narrowed := true }
def QuoteTellsUptoSaid : Prop := quoteTellsUptoRow.holds Try.pinned (OpenSpec.upto quoteTellsSpec)

/-- 'tympanlaw7.QuoteBack', WHERE WHAT IT READS IS OF BULK AT MOST 1048576: true; the input reads as it did. -/
def quoteBackUptoRow : OpenClaim := { program := "ytdonjnngohmknaa", sum := "0cbc1fe5ad93ef531f5fe108c3abaf736932bd59d8b97b558c03e32b09a31f33", func := "tympan/tympanlaw7.QuoteBack", spec := "quoteBack", apart := false, narrowed := true }
def QuoteBackUptoSaid : Prop := quoteBackUptoRow.holds Try.pinned (OpenSpec.upto quoteBackSpec)

/-- 'tympanlaw7.QuoteNested', WHERE WHAT IT READS IS OF BULK AT MOST 1048576: true; the input reads as it did. -/
def quoteNestedUptoRow : OpenClaim := { program := "ytdonjnngohmknaa", sum := "0cbc1fe5ad93ef531f5fe108c3abaf736932bd59d8b97b558c03e32b09a31f33", func := "tympan/tympanlaw7.QuoteNested", spec := "quoteNested", apart := false, narrowed := true }
def QuoteNestedUptoSaid : Prop := quoteNestedUptoRow.holds Try.pinned (OpenSpec.upto quoteNestedSpec)

/-- 'tympanlaw7.QuoteLoose', WHERE WHAT IT READS IS OF BULK AT MOST 1048576: true; the input reads as it did. -/
def quoteLooseUptoRow : OpenClaim := { program := "ytdonjnngohmknaa", sum := "0cbc1fe5ad93ef531f5fe108c3abaf736932bd59d8b97b558c03e32b09a31f33", func := "tympan/tympanlaw7.QuoteLoose", spec := "quoteLoose", apart := false, narrowed := true }
def QuoteLooseUptoSaid : Prop := quoteLooseUptoRow.holds Try.pinned (OpenSpec.upto quoteLooseSpec)

/-- 'tympanlaw7.QuoteEight', WHERE WHAT IT READS IS OF BULK AT MOST 1048576: true; the input reads as it did. -/
def quoteEightUptoRow : OpenClaim := { program := "ytdonjnngohmknaa", sum := "0cbc1fe5ad93ef531f5fe108c3abaf736932bd59d8b97b558c03e32b09a31f33", func := "tympan/tympanlaw7.QuoteEight", spec := "quoteEight", recurses := true, apart := false, narrowed := true }
def QuoteEightUptoSaid : Prop := quoteEightUptoRow.holds Try.pinned (OpenSpec.upto quoteEightSpec)

/-- 'tympanlaw7.QuoteMost', WHERE WHAT IT READS IS OF BULK AT MOST 1048576: true; the input reads as it did. -/
def quoteMostUptoRow : OpenClaim := { program := "ytdonjnngohmknaa", sum := "0cbc1fe5ad93ef531f5fe108c3abaf736932bd59d8b97b558c03e32b09a31f33", func := "tympan/tympanlaw7.QuoteMost", spec := "quoteMost", apart := false, narrowed := true }
def QuoteMostUptoSaid : Prop := quoteMostUptoRow.holds Try.pinned (OpenSpec.upto quoteMostSpec)

end Rows
end Go.Proofs.Ytdonjnngohmknaa
