/-
  No cell of these rows narrows 'for every input' (looked for: loops, veiled, ifaces, maps, wideKeys, modest, calm, conditions, laid).
  DERIVED. THE GIVEN ROWS OF THIS SEAT. 3 by the template 'for every input the law returns true; each argument reads behind the call as it read before'; 0 by the template 'total and deterministic' (their statements: YthkhpbgapcnapaaTotals.lean).
  GIVEN WITH THE SEED: the statements are not yours to turn. If you find one false, say at which input.
  Laid BY PROGRAM, IN A SANDBOX (cutbox-rows.mjs): the forced cells as the released guide's own fill.sh prints them over the translation a4860b34119cdce5… (all of the seat's roots in one cut). By AI agents, Wed Nov 11 2026. No macro, syntax, notation, axiom, sorry.
-/
import Derived.Test.YthkhpbgapcnapaaChecked
import GoSem.Claim
import GoSem.ClaimJoined
import GoSem.ClaimMapViews
import Derived.JoinedTies
import Derived.KernelRfl
namespace Go.Proofs.Ythkhpbgapcnapaa
/- THE CELL 'sum', in the pinned program and in every row, IS THE sha256 OF THE DUMP (.gsa) THAT YthkhpbgapcnapaaProg.lean LOADS. Nothing in Lean hashes anything: it is a label: what it is worth is what the hold of that sum in a sandbox is worth. -/
noncomputable def Try.pinned : Pinned := { name := "ythkhpbgapcnapaa", sum := "a4860b34119cdce595f4ff5dd4331e60fbf8ffd3be8b5e4801ae0a280996325d", checked := Try.checked }
namespace Rows
def none {H : Type} : Left H := { results := [], args := [] }

/-- 'tympanlaw5.CharTells': WHATEVER THE INPUT: true; the input reads as it did. -/
def charTellsSpec : ChangeSpec := { name := "charTells", fn := fun _ => fun
  | [d1, d2] => { results := [.lit (.bool true)], args := [d1, d2] }
  | _ => none }
def charTellsRow : OpenClaim := { program := "ythkhpbgapcnapaa", sum := "a4860b34119cdce595f4ff5dd4331e60fbf8ffd3be8b5e4801ae0a280996325d", func := "tympan/tympanlaw5.CharTells", spec := "charTells", apart := false }
def CharTellsSaid : Prop := charTellsRow.holds Try.pinned (OpenSpec.ofChange charTellsSpec)

/-- ITS FALSE NEIGHBOUR: 'it returns false'. Refute it at one input. -/
def charTellsWrong : ChangeSpec := { name := "charTells", fn := fun _ => fun
  | [d1, d2] => { results := [.lit (.bool false)], args := [d1, d2] }
  | _ => none }
def CharTellsWrongFalsely : Prop := charTellsRow.holds Try.pinned (OpenSpec.ofChange charTellsWrong)

/-- 'tympanlaw5.CharRuns': WHATEVER THE INPUT: true; the input reads as it did. -/
def charRunsSpec : ChangeSpec := { name := "charRuns", fn := fun _ => fun
  | [d1, d2, d3] => { results := [.lit (.bool true)], args := [d1, d2, d3] }
  | _ => none }
def charRunsRow : OpenClaim := { program := "ythkhpbgapcnapaa", sum := "a4860b34119cdce595f4ff5dd4331e60fbf8ffd3be8b5e4801ae0a280996325d", func := "tympan/tympanlaw5.CharRuns", spec := "charRuns", apart := false }
def CharRunsSaid : Prop := charRunsRow.holds Try.pinned (OpenSpec.ofChange charRunsSpec)

/-- ITS FALSE NEIGHBOUR: 'it returns false'. Refute it at one input. -/
def charRunsWrong : ChangeSpec := { name := "charRuns", fn := fun _ => fun
  | [d1, d2, d3] => { results := [.lit (.bool false)], args := [d1, d2, d3] }
  | _ => none }
def CharRunsWrongFalsely : Prop := charRunsRow.holds Try.pinned (OpenSpec.ofChange charRunsWrong)

/-- 'tympanlaw5.CharDigits': WHATEVER THE INPUT: true; the input reads as it did. -/
def charDigitsSpec : ChangeSpec := { name := "charDigits", fn := fun _ => fun
  | [d] => { results := [.lit (.bool true)], args := [d] }
  | _ => none }
def charDigitsRow : OpenClaim := { program := "ythkhpbgapcnapaa", sum := "a4860b34119cdce595f4ff5dd4331e60fbf8ffd3be8b5e4801ae0a280996325d", func := "tympan/tympanlaw5.CharDigits", spec := "charDigits", apart := false }
def CharDigitsSaid : Prop := charDigitsRow.holds Try.pinned (OpenSpec.ofChange charDigitsSpec)

/-- ITS FALSE NEIGHBOUR: 'it returns false'. Refute it at one input. -/
def charDigitsWrong : ChangeSpec := { name := "charDigits", fn := fun _ => fun
  | [d] => { results := [.lit (.bool false)], args := [d] }
  | _ => none }
def CharDigitsWrongFalsely : Prop := charDigitsRow.holds Try.pinned (OpenSpec.ofChange charDigitsWrong)

/- THE SECOND FORM. 'bulk': how many values and letters a reading holds, each counted each time it is reached (what is shared counts as often as it is met; a slice's spare places count too). A statement '..UptoSaid' is the law's where the arguments, and the package variables that the reading takes, are together of bulk at most 1048576: NARROWER than '..Said'. Prove '..Said' where nothing that the law and all that it calls make is longer than what came in: it says more and counts as full. Else prove '..UptoSaid'. A law counts once. -/
mutual
def uptoBulk {H : Type} : DataW H → Nat
  | .lit (.string bytes) => bytes.length + 1
  | .lit _ => 1
  | .nil => 1
  | .ptr d => uptoBulk d + 1
  | .slice elems spare => uptoBulkAll elems + uptoBulkAll spare + 1
  | .agg parts => uptoBulkAll parts + 1
  | .iface _ d => uptoBulk d + 1
  | .map entries => uptoBulkEntries entries + 1
  | .held _ => 1
def uptoBulkAll {H : Type} : List (DataW H) → Nat
  | [] => 0
  | d :: r => uptoBulk d + uptoBulkAll r
def uptoBulkEntries {H : Type} : List (Lit × DataW H) → Nat
  | [] => 0
  | x :: r => uptoBulkEntry x + uptoBulkEntries r
def uptoBulkEntry {H : Type} : Lit × DataW H → Nat
  | (.string bytes, d) => bytes.length + uptoBulk d + 1
  | (_, d) => uptoBulk d + 1
 end
def uptoSmall : (H : Type) → List (DataW H) → Bool := fun _ ds => decide (uptoBulkAll ds ≤ 1048576)
def OpenSpec.upto (s : _root_.Go.ChangeSpec) : _root_.Go.OpenSpec := { _root_.Go.OpenSpec.ofChange s with cond := some uptoSmall }

/-- 'tympanlaw5.CharTells', WHERE WHAT IT READS IS OF BULK AT MOST 1048576: true; the input reads as it did. -/
def charTellsUptoRow : OpenClaim := { program := "ythkhpbgapcnapaa", sum := "a4860b34119cdce595f4ff5dd4331e60fbf8ffd3be8b5e4801ae0a280996325d", func := "tympan/tympanlaw5.CharTells", spec := "charTells", apart := false, narrowed := true }
def CharTellsUptoSaid : Prop := charTellsUptoRow.holds Try.pinned (OpenSpec.upto charTellsSpec)

/-- 'tympanlaw5.CharRuns', WHERE WHAT IT READS IS OF BULK AT MOST 1048576: true; the input reads as it did. -/
def charRunsUptoRow : OpenClaim := { program := "ythkhpbgapcnapaa", sum := "a4860b34119cdce595f4ff5dd4331e60fbf8ffd3be8b5e4801ae0a280996325d", func := "tympan/tympanlaw5.CharRuns", spec := "charRuns", apart := false, narrowed := true }
def CharRunsUptoSaid : Prop := charRunsUptoRow.holds Try.pinned (OpenSpec.upto charRunsSpec)

/-- 'tympanlaw5.CharDigits', WHERE WHAT IT READS IS OF BULK AT MOST 1048576: true; the input reads as it did. -/
def charDigitsUptoRow : OpenClaim := { program := "ythkhpbgapcnapaa", sum := "a4860b34119cdce595f4ff5dd4331e60fbf8ffd3be8b5e4801ae0a280996325d", func := "tympan/tympanlaw5.CharDigits", spec := "charDigits", apart := false, narrowed := true }
def CharDigitsUptoSaid : Prop := charDigitsUptoRow.holds Try.pinned (OpenSpec.upto charDigitsSpec)

end Rows
end Go.Proofs.Ythkhpbgapcnapaa
