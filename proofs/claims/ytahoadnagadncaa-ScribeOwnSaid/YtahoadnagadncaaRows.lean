/-
  No cell of these rows narrows 'for every input' (looked for: loops, veiled, ifaces, maps, wideKeys, modest, calm, conditions, laid).
  DERIVED. THE GIVEN ROWS OF THIS SEAT. 3 by the template 'for every input the law returns true; each argument reads behind the call as it read before'; 0 by the template 'total and deterministic' (their statements: YtahoadnagadncaaTotals.lean).
  GIVEN WITH THE SEED: the statements are not yours to turn. If you find one false, say at which input.
  Laid BY PROGRAM, IN A SANDBOX (cutbox-rows.mjs): the forced cells as the released guide's own fill.sh prints them over the translation 4439a1b7904cebe3… (all of the seat's roots in one cut). By AI agents, Wed Nov 11 2026. No macro, syntax, notation, axiom, sorry.
-/
import Derived.Test.YtahoadnagadncaaChecked
import GoSem.Claim
import GoSem.ClaimJoined
import GoSem.ClaimMapViews
import Derived.JoinedTies
import Derived.KernelRfl
namespace Go.Proofs.Ytahoadnagadncaa
/- THE CELL 'sum', in the pinned program and in every row, IS THE sha256 OF THE DUMP (.gsa) THAT YtahoadnagadncaaProg.lean LOADS. Nothing in Lean hashes anything: it is a label: what it is worth is what the hold of that sum in a sandbox is worth. -/
noncomputable def Try.pinned : Pinned := { name := "ytahoadnagadncaa", sum := "4439a1b7904cebe39ba24507c1e473a223b8db681ed75168223e19fb0c33f8df", checked := Try.checked }
namespace Rows
def none {H : Type} : Left H := { results := [], args := [] }

/-- 'tumblerlaw13.ScribePlays': WHATEVER THE INPUT: true; the input reads as it did. -/
def scribePlaysSpec : ChangeSpec := { name := "scribePlays", fn := fun _ => fun
  | [d1, d2, d3, d4, d5] => { results := [.lit (.bool true)], args := [d1, d2, d3, d4, d5] }
  | _ => none }
def scribePlaysRow : OpenClaim := { program := "ytahoadnagadncaa", sum := "4439a1b7904cebe39ba24507c1e473a223b8db681ed75168223e19fb0c33f8df", func := "tumbler/tumblerlaw13.ScribePlays", spec := "scribePlays", recurses := true, apart := false }
def ScribePlaysSaid : Prop := scribePlaysRow.holds Try.pinned (OpenSpec.ofChange scribePlaysSpec)

/-- ITS FALSE NEIGHBOUR: 'it returns false'. Refute it at one input. -/
def scribePlaysWrong : ChangeSpec := { name := "scribePlays", fn := fun _ => fun
  | [d1, d2, d3, d4, d5] => { results := [.lit (.bool false)], args := [d1, d2, d3, d4, d5] }
  | _ => none }
def ScribePlaysWrongFalsely : Prop := scribePlaysRow.holds Try.pinned (OpenSpec.ofChange scribePlaysWrong)

/-- 'tumblerlaw13.ScribeOwn': WHATEVER THE INPUT: true; the input reads as it did. -/
def scribeOwnSpec : ChangeSpec := { name := "scribeOwn", fn := fun _ => fun
  | [d1, d2, d3, d4] => { results := [.lit (.bool true)], args := [d1, d2, d3, d4] }
  | _ => none }
def scribeOwnRow : OpenClaim := { program := "ytahoadnagadncaa", sum := "4439a1b7904cebe39ba24507c1e473a223b8db681ed75168223e19fb0c33f8df", func := "tumbler/tumblerlaw13.ScribeOwn", spec := "scribeOwn", apart := false }
def ScribeOwnSaid : Prop := scribeOwnRow.holds Try.pinned (OpenSpec.ofChange scribeOwnSpec)

/-- ITS FALSE NEIGHBOUR: 'it returns false'. Refute it at one input. -/
def scribeOwnWrong : ChangeSpec := { name := "scribeOwn", fn := fun _ => fun
  | [d1, d2, d3, d4] => { results := [.lit (.bool false)], args := [d1, d2, d3, d4] }
  | _ => none }
def ScribeOwnWrongFalsely : Prop := scribeOwnRow.holds Try.pinned (OpenSpec.ofChange scribeOwnWrong)

/-- 'tumblerlaw13.ScribeHelps': WHATEVER THE INPUT: true; the input reads as it did. -/
def scribeHelpsSpec : ChangeSpec := { name := "scribeHelps", fn := fun _ => fun
  | [d1, d2, d3] => { results := [.lit (.bool true)], args := [d1, d2, d3] }
  | _ => none }
def scribeHelpsRow : OpenClaim := { program := "ytahoadnagadncaa", sum := "4439a1b7904cebe39ba24507c1e473a223b8db681ed75168223e19fb0c33f8df", func := "tumbler/tumblerlaw13.ScribeHelps", spec := "scribeHelps", recurses := true, apart := false }
def ScribeHelpsSaid : Prop := scribeHelpsRow.holds Try.pinned (OpenSpec.ofChange scribeHelpsSpec)

/-- ITS FALSE NEIGHBOUR: 'it returns false'. Refute it at one input. -/
def scribeHelpsWrong : ChangeSpec := { name := "scribeHelps", fn := fun _ => fun
  | [d1, d2, d3] => { results := [.lit (.bool false)], args := [d1, d2, d3] }
  | _ => none }
def ScribeHelpsWrongFalsely : Prop := scribeHelpsRow.holds Try.pinned (OpenSpec.ofChange scribeHelpsWrong)

/- THE SECOND FORM. 'bulk': how many values and letters a reading holds, each counted each time it is reached (what is shared counts as often as it is met; a slice's spare places count too). A statement '..UptoSaid' is the law's where the arguments, and the package variables that the reading takes, are together of bulk at most 1048576: NARROWER than '..Said'. Prove '..Said' where nothing that the law and all that it calls make is longer than what came in: it says more and counts as full. Else prove '..UptoSaid'. A law counts once. -/
mutual
def uptoBulk {H : Type} : DataW H → Nat
  | .lit (.string bytes) => bytes.length + 1
  | .lit _ => 1
  | .nil => 1
  | .ptr d => uptoBulk d + 1
  | .slice elems spare => uptoBulkAll elems + uptoBulkAll spare + 1
  | .agg parts => uptoBulkAll parts + 1
  | .iface _ d => uptoBulk d + 1
  | .map entries => uptoBulkEntries entries + 1
  | .held _ => 1
def uptoBulkAll {H : Type} : List (DataW H) → Nat
  | [] => 0
  | d :: r => uptoBulk d + uptoBulkAll r
def uptoBulkEntries {H : Type} : List (Lit × DataW H) → Nat
  | [] => 0
  | x :: r => uptoBulkEntry x + uptoBulkEntries r
def uptoBulkEntry {H : Type} : Lit × DataW H → Nat
  | (.string bytes, d) => bytes.length + uptoBulk d + 1
  | (_, d) => uptoBulk d + 1
 end
def uptoSmall : (H : Type) → List (DataW H) → Bool := fun _ ds => decide (uptoBulkAll ds ≤ 1048576)
def OpenSpec.upto (s : _root_.Go.ChangeSpec) : _root_.Go.OpenSpec := { _root_.Go.OpenSpec.ofChange s with cond := some uptoSmall }

/-- 'tumblerlaw13.ScribePlays', WHERE WHAT IT READS IS OF BULK AT MOST 1048576: true; the input reads as it did. -/
def scribePlaysUptoRow : OpenClaim := { program := "ytahoadnagadncaa", sum := "4439a1b7904cebe39ba24507c1e473a223b8db681ed75168223e19fb0c33f8df", func := "tumbler/tumblerlaw13.ScribePlays", spec := "scribePlays", recurses := true, apart := false, narrowed := true }
def ScribePlaysUptoSaid : Prop := scribePlaysUptoRow.holds Try.pinned (OpenSpec.upto scribePlaysSpec)

/-- 'tumblerlaw13.ScribeOwn', WHERE WHAT IT READS IS OF BULK AT MOST 1048576: true; the input reads as it did. -/
def scribeOwnUptoRow : OpenClaim := { program := "ytahoadnagadncaa", sum := "4439a1b7904cebe39ba24507c1e473a223b8db681ed75168223e19fb0c33f8df", func := "tumbler/tumblerlaw13.ScribeOwn", spec := "scribeOwn", apart := false, narrowed := true }
def ScribeOwnUptoSaid : Prop := scribeOwnUptoRow.holds Try.pinned (OpenSpec.upto scribeOwnSpec)

/-- 'tumblerlaw13.ScribeHelps', WHERE WHAT IT READS IS OF BULK AT MOST 1048576: true; the input reads as it did. -/
def scribeHelpsUptoRow : OpenClaim := { program := "ytahoadnagadncaa", sum := "4439a1b7904cebe39ba24507c1e473a223b8db681ed75168223e19fb0c33f8df", func := "tumbler/tumblerlaw13.ScribeHelps", spec := "scribeHelps", recurses := true, apart := false, narrowed := true }
def ScribeHelpsUptoSaid : Prop := scribeHelpsUptoRow.holds Try.pinned (OpenSpec.upto scribeHelpsSpec)

end Rows
end Go.Proofs.Ytahoadnagadncaa
