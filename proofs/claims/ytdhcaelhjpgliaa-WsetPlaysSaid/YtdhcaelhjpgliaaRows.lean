/-
  No cell of these rows narrows 'for every input' (looked for: loops, veiled, ifaces, maps, wideKeys, modest, calm, conditions, laid).
  DERIVED. THE GIVEN ROWS OF THIS SEAT. 5 by the template 'for every input the law returns true; each argument reads behind the call as it read before'; 0 by the template 'total and deterministic' (their statements: YtdhcaelhjpgliaaTotals.lean).
  GIVEN WITH THE SEED: the statements are not yours to turn. If you find one false, say at which input.
  Laid BY PROGRAM, IN A SANDBOX (cutbox-rows.mjs): the forced cells as the released guide's own fill.sh prints them over the translation ea0483bcec65cfb0… (all of the seat's roots in one cut). By AI agents, Wed Nov 11 2026. No macro, syntax, notation, axiom, sorry.
-/
import Derived.Test.YtdhcaelhjpgliaaChecked
import GoSem.Claim
import GoSem.ClaimJoined
import GoSem.ClaimMapViews
import Derived.JoinedTies
import Derived.KernelRfl
namespace Go.Proofs.Ytdhcaelhjpgliaa
/- THE CELL 'sum', in the pinned program and in every row, IS THE sha256 OF THE DUMP (.gsa) THAT YtdhcaelhjpgliaaProg.lean LOADS. Nothing in Lean hashes anything: it is a label: what it is worth is what the hold of that sum in a sandbox is worth. -/
noncomputable def Try.pinned : Pinned := { name := "ytdhcaelhjpgliaa", sum := "ea0483bcec65cfb0e458f69be061a6a84a68adf423e7f39ac2884d01b980f278", checked := Try.checked }
namespace Rows
def none {H : Type} : Left H := { results := [], args := [] }

/-- 'tumblerlaw08.WsetPlays': WHATEVER THE INPUT: true; the input reads as it did. -/
def wsetPlaysSpec : ChangeSpec := { name := "wsetPlays", fn := fun _ => fun
  | [d1, d2, d3, d4] => { results := [.lit (.bool true)], args := [d1, d2, d3, d4] }
  | _ => none }
def wsetPlaysRow : OpenClaim := { program := "ytdhcaelhjpgliaa", sum := "ea0483bcec65cfb0e458f69be061a6a84a68adf423e7f39ac2884d01b980f278", func := "tumbler/tumblerlaw08.WsetPlays", spec := "wsetPlays", apart := false }
def WsetPlaysSaid : Prop := wsetPlaysRow.holds Try.pinned (OpenSpec.ofChange wsetPlaysSpec)

/-- ITS FALSE NEIGHBOUR: 'it returns false'. Refute it at one input. -/
def wsetPlaysWrong : ChangeSpec := { name := "wsetPlays", fn := fun _ => fun
  | [d1, d2, d3, d4] => { results := [.lit (.bool false)], args := [d1, d2, d3, d4] }
  | _ => none }
def WsetPlaysWrongFalsely : Prop := wsetPlaysRow.holds Try.pinned (OpenSpec.ofChange wsetPlaysWrong)

/-- 'tumblerlaw08.WsetBack': WHATEVER THE INPUT: true; the input reads as it did. -/
def wsetBackSpec : ChangeSpec := { name := "wsetBack", fn := fun _ => fun
  | [d1, d2, d3] => { results := [.lit (.bool true)], args := [d1, d2, d3] }
  | _ => none }
def wsetBackRow : OpenClaim := { program := "ytdhcaelhjpgliaa", sum := "ea0483bcec65cfb0e458f69be061a6a84a68adf423e7f39ac2884d01b980f278", func := "tumbler/tumblerlaw08.WsetBack", spec := "wsetBack", apart := false }
def WsetBackSaid : Prop := wsetBackRow.holds Try.pinned (OpenSpec.ofChange wsetBackSpec)

/-- ITS FALSE NEIGHBOUR: 'it returns false'. Refute it at one input. -/
def wsetBackWrong : ChangeSpec := { name := "wsetBack", fn := fun _ => fun
  | [d1, d2, d3] => { results := [.lit (.bool false)], args := [d1, d2, d3] }
  | _ => none }
def WsetBackWrongFalsely : Prop := wsetBackRow.holds Try.pinned (OpenSpec.ofChange wsetBackWrong)

/-- 'tumblerlaw08.WsetKeeps': WHATEVER THE INPUT: true; the input reads as it did. -/
def wsetKeepsSpec : ChangeSpec := { name := "wsetKeeps", fn := fun _ => fun
  | [d] => { results := [.lit (.bool true)], args := [d] }
  | _ => none }
def wsetKeepsRow : OpenClaim := { program := "ytdhcaelhjpgliaa", sum := "ea0483bcec65cfb0e458f69be061a6a84a68adf423e7f39ac2884d01b980f278", func := "tumbler/tumblerlaw08.WsetKeeps", spec := "wsetKeeps", apart := false }
def WsetKeepsSaid : Prop := wsetKeepsRow.holds Try.pinned (OpenSpec.ofChange wsetKeepsSpec)

/-- ITS FALSE NEIGHBOUR: 'it returns false'. Refute it at one input. -/
def wsetKeepsWrong : ChangeSpec := { name := "wsetKeeps", fn := fun _ => fun
  | [d] => { results := [.lit (.bool false)], args := [d] }
  | _ => none }
def WsetKeepsWrongFalsely : Prop := wsetKeepsRow.holds Try.pinned (OpenSpec.ofChange wsetKeepsWrong)

/-- 'tumblerlaw08.WsetFull': WHATEVER THE INPUT: true; the input reads as it did. -/
def wsetFullSpec : ChangeSpec := { name := "wsetFull", fn := fun _ => fun
  | [d1, d2, d3, d4] => { results := [.lit (.bool true)], args := [d1, d2, d3, d4] }
  | _ => none }
def wsetFullRow : OpenClaim := { program := "ytdhcaelhjpgliaa", sum := "ea0483bcec65cfb0e458f69be061a6a84a68adf423e7f39ac2884d01b980f278", func := "tumbler/tumblerlaw08.WsetFull", spec := "wsetFull", apart := false }
def WsetFullSaid : Prop := wsetFullRow.holds Try.pinned (OpenSpec.ofChange wsetFullSpec)

/-- ITS FALSE NEIGHBOUR: 'it returns false'. Refute it at one input. -/
def wsetFullWrong : ChangeSpec := { name := "wsetFull", fn := fun _ => fun
  | [d1, d2, d3, d4] => { results := [.lit (.bool false)], args := [d1, d2, d3, d4] }
  | _ => none }
def WsetFullWrongFalsely : Prop := wsetFullRow.holds Try.pinned (OpenSpec.ofChange wsetFullWrong)

/-- 'tumblerlaw08.WsetMarks': WHATEVER THE INPUT: true; the input reads as it did. -/
def wsetMarksSpec : ChangeSpec := { name := "wsetMarks", fn := fun _ => fun
  | [d1, d2, d3, d4] => { results := [.lit (.bool true)], args := [d1, d2, d3, d4] }
  | _ => none }
def wsetMarksRow : OpenClaim := { program := "ytdhcaelhjpgliaa", sum := "ea0483bcec65cfb0e458f69be061a6a84a68adf423e7f39ac2884d01b980f278", func := "tumbler/tumblerlaw08.WsetMarks", spec := "wsetMarks", apart := false }
def WsetMarksSaid : Prop := wsetMarksRow.holds Try.pinned (OpenSpec.ofChange wsetMarksSpec)

/-- ITS FALSE NEIGHBOUR: 'it returns false'. Refute it at one input. -/
def wsetMarksWrong : ChangeSpec := { name := "wsetMarks", fn := fun _ => fun
  | [d1, d2, d3, d4] => { results := [.lit (.bool false)], args := [d1, d2, d3, d4] }
  | _ => none }
def WsetMarksWrongFalsely : Prop := wsetMarksRow.holds Try.pinned (OpenSpec.ofChange wsetMarksWrong)

/- THE SECOND FORM. 'bulk': how many values and letters a reading holds, each counted each time it is reached (what is shared counts as often as it is met; a slice's spare places count too). A statement '..UptoSaid' is the law's where the arguments, and the package variables that the reading takes, are together of bulk at most 1048576: NARROWER than '..Said'. Prove '..Said' where nothing that the law and all that it calls make is longer than what came in: it says more and counts as full. Else prove '..UptoSaid'. A law counts once. -/
mutual
def uptoBulk {H : Type} : DataW H → Nat
  | .lit (.string bytes) => bytes.length + 1
  | .lit _ => 1
  | .nil => 1
  | .ptr d => uptoBulk d + 1
  | .slice elems spare => uptoBulkAll elems + uptoBulkAll spare + 1
  | .agg parts => uptoBulkAll parts + 1
  | .iface _ d => uptoBulk d + 1
  | .map entries => uptoBulkEntries entries + 1
  | .held _ => 1
def uptoBulkAll {H : Type} : List (DataW H) → Nat
  | [] => 0
  | d :: r => uptoBulk d + uptoBulkAll r
def uptoBulkEntries {H : Type} : List (Lit × DataW H) → Nat
  | [] => 0
  | x :: r => uptoBulkEntry x + uptoBulkEntries r
def uptoBulkEntry {H : Type} : Lit × DataW H → Nat
  | (.string bytes, d) => bytes.length + uptoBulk d + 1
  | (_, d) => uptoBulk d + 1
 end
def uptoSmall : (H : Type) → List (DataW H) → Bool := fun _ ds => decide (uptoBulkAll ds ≤ 1048576)
def OpenSpec.upto (s : _root_.Go.ChangeSpec) : _root_.Go.OpenSpec := { _root_.Go.OpenSpec.ofChange s with cond := some uptoSmall }

/-- 'tumblerlaw08.WsetPlays', WHERE WHAT IT READS IS OF BULK AT MOST 1048576: true; the input reads as it did. -/
def wsetPlaysUptoRow : OpenClaim := { program := "ytdhcaelhjpgliaa", sum := "ea0483bcec65cfb0e458f69be061a6a84a68adf423e7f39ac2884d01b980f278", func := "tumbler/tumblerlaw08.WsetPlays", spec := "wsetPlays", apart := false, narrowed := true }
def WsetPlaysUptoSaid : Prop := wsetPlaysUptoRow.holds Try.pinned (OpenSpec.upto wsetPlaysSpec)

/-- 'tumblerlaw08.WsetBack', WHERE WHAT IT READS IS OF BULK AT MOST 1048576: true; the input reads as it did. -/
def wsetBackUptoRow : OpenClaim := { program := "ytdhcaelhjpgliaa", sum := "ea0483bcec65cfb0e458f69be061a6a84a68adf423e7f39ac2884d01b980f278", func := "tumbler/tumblerlaw08.WsetBack", spec := "wsetBack", apart := false, narrowed := true }
def WsetBackUptoSaid : Prop := wsetBackUptoRow.holds Try.pinned (OpenSpec.upto wsetBackSpec)

/-- 'tumblerlaw08.WsetKeeps', WHERE WHAT IT READS IS OF BULK AT MOST 1048576: true; the input reads as it did. -/
def wsetKeepsUptoRow : OpenClaim := { program := "ytdhcaelhjpgliaa", sum := "ea0483bcec65cfb0e458f69be061a6a84a68adf423e7f39ac2884d01b980f278", func := "tumbler/tumblerlaw08.WsetKeeps", spec := "wsetKeeps", apart := false, narrowed := true }
def WsetKeepsUptoSaid : Prop := wsetKeepsUptoRow.holds Try.pinned (OpenSpec.upto wsetKeepsSpec)

/-- 'tumblerlaw08.WsetFull', WHERE WHAT IT READS IS OF BULK AT MOST 1048576: true; the input reads as it did. -/
def wsetFullUptoRow : OpenClaim := { program := "ytdhcaelhjpgliaa", sum := "ea0483bcec65cfb0e458f69be061a6a84a68adf423e7f39ac2884d01b980f278", func := "tumbler/tumblerlaw08.WsetFull", spec := "wsetFull", apart := false, narrowed := true }
def WsetFullUptoSaid : Prop := wsetFullUptoRow.holds Try.pinned (OpenSpec.upto wsetFullSpec)

/-- 'tumblerlaw08.WsetMarks', WHERE WHAT IT READS IS OF BULK AT MOST 1048576: true; the input reads as it did. -/
def wsetMarksUptoRow : OpenClaim := { program := "ytdhcaelhjpgliaa", sum := "ea0483bcec65cfb0e458f69be061a6a84a68adf423e7f39ac2884d01b980f278", func := "tumbler/tumblerlaw08.WsetMarks", spec := "wsetMarks", apart := false, narrowed := true }
def WsetMarksUptoSaid : Prop := wsetMarksUptoRow.holds Try.pinned (OpenSpec.upto wsetMarksSpec)

end Rows
end Go.Proofs.Ytdhcaelhjpgliaa
