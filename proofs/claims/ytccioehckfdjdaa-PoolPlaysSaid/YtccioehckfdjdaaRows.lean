/-
  No cell of these rows narrows 'for every input' (looked for: loops, veiled, ifaces, maps, wideKeys, modest, calm, conditions, laid).
  DERIVED. THE GIVEN ROWS OF THIS SEAT. 12 by the template 'for every input the law returns true; each argument reads behind the call as it read before'; 0 by the template 'total and deterministic' (their statements: YtccioehckfdjdaaTotals.lean).
  GIVEN WITH THE SEED: the statements are not yours to turn. If you find one false, say at which input.
  Laid BY PROGRAM, IN A SANDBOX (cutbox-rows.mjs): the forced cells as the released guide's own fill.sh prints them over the translation 3ad55834ce133c1c… (all of the seat's roots in one cut). By AI agents, Wed Nov 11 2026. No macro, syntax, notation, axiom, sorry.
-/
import Derived.Test.YtccioehckfdjdaaChecked
import GoSem.Claim
import GoSem.ClaimJoined
import GoSem.ClaimMapViews
import Derived.JoinedTies
import Derived.KernelRfl
namespace Go.Proofs.Ytccioehckfdjdaa
/- THE CELL 'sum', in the pinned program and in every row, IS THE sha256 OF THE DUMP (.gsa) THAT YtccioehckfdjdaaProg.lean LOADS. Nothing in Lean hashes anything: it is a label: what it is worth is what the hold of that sum in a sandbox is worth. -/
noncomputable def Try.pinned : Pinned := { name := "ytccioehckfdjdaa", sum := "3ad55834ce133c1c8ff43be321ef152fc7a2d4314c018cbe9df9c041fc37b878", checked := Try.checked }
namespace Rows
def none {H : Type} : Left H := { results := [], args := [] }

/-- 'tumblerlaw09.ViewPlays': WHATEVER THE INPUT: true; the input reads as it did. -/
def viewPlaysSpec : ChangeSpec := { name := "viewPlays", fn := fun _ => fun
  | [d1, d2, d3, d4, d5] => { results := [.lit (.bool true)], args := [d1, d2, d3, d4, d5] }
  | _ => none }
def viewPlaysRow : OpenClaim := { program := "ytccioehckfdjdaa", sum := "3ad55834ce133c1c8ff43be321ef152fc7a2d4314c018cbe9df9c041fc37b878", func := "tumbler/tumblerlaw09.ViewPlays", spec := "viewPlays", recurses := true, apart := false }
def ViewPlaysSaid : Prop := viewPlaysRow.holds Try.pinned (OpenSpec.ofChange viewPlaysSpec)

/-- ITS FALSE NEIGHBOUR: 'it returns false'. Refute it at one input. -/
def viewPlaysWrong : ChangeSpec := { name := "viewPlays", fn := fun _ => fun
  | [d1, d2, d3, d4, d5] => { results := [.lit (.bool false)], args := [d1, d2, d3, d4, d5] }
  | _ => none }
def ViewPlaysWrongFalsely : Prop := viewPlaysRow.holds Try.pinned (OpenSpec.ofChange viewPlaysWrong)

/-- 'tumblerlaw10.PoolReads': WHATEVER THE INPUT: true; the input reads as it did. -/
def poolReadsSpec : ChangeSpec := { name := "poolReads", fn := fun _ => fun
  | [d1, d2, d3] => { results := [.lit (.bool true)], args := [d1, d2, d3] }
  | _ => none }
def poolReadsRow : OpenClaim := { program := "ytccioehckfdjdaa", sum := "3ad55834ce133c1c8ff43be321ef152fc7a2d4314c018cbe9df9c041fc37b878", func := "tumbler/tumblerlaw10.PoolReads", spec := "poolReads", recurses := true, apart := false }
def PoolReadsSaid : Prop := poolReadsRow.holds Try.pinned (OpenSpec.ofChange poolReadsSpec)

/-- ITS FALSE NEIGHBOUR: 'it returns false'. Refute it at one input. -/
def poolReadsWrong : ChangeSpec := { name := "poolReads", fn := fun _ => fun
  | [d1, d2, d3] => { results := [.lit (.bool false)], args := [d1, d2, d3] }
  | _ => none }
def PoolReadsWrongFalsely : Prop := poolReadsRow.holds Try.pinned (OpenSpec.ofChange poolReadsWrong)

/-- 'tumblerlaw10.PoolFrees': WHATEVER THE INPUT: true; the input reads as it did. -/
def poolFreesSpec : ChangeSpec := { name := "poolFrees", fn := fun _ => fun
  | [d1, d2, d3, d4] => { results := [.lit (.bool true)], args := [d1, d2, d3, d4] }
  | _ => none }
def poolFreesRow : OpenClaim := { program := "ytccioehckfdjdaa", sum := "3ad55834ce133c1c8ff43be321ef152fc7a2d4314c018cbe9df9c041fc37b878", func := "tumbler/tumblerlaw10.PoolFrees", spec := "poolFrees", apart := false }
def PoolFreesSaid : Prop := poolFreesRow.holds Try.pinned (OpenSpec.ofChange poolFreesSpec)

/-- ITS FALSE NEIGHBOUR: 'it returns false'. Refute it at one input. -/
def poolFreesWrong : ChangeSpec := { name := "poolFrees", fn := fun _ => fun
  | [d1, d2, d3, d4] => { results := [.lit (.bool false)], args := [d1, d2, d3, d4] }
  | _ => none }
def PoolFreesWrongFalsely : Prop := poolFreesRow.holds Try.pinned (OpenSpec.ofChange poolFreesWrong)

/-- 'tumblerlaw10.PoolBack': WHATEVER THE INPUT: true; the input reads as it did. -/
def poolBackSpec : ChangeSpec := { name := "poolBack", fn := fun _ => fun
  | [d1, d2, d3] => { results := [.lit (.bool true)], args := [d1, d2, d3] }
  | _ => none }
def poolBackRow : OpenClaim := { program := "ytccioehckfdjdaa", sum := "3ad55834ce133c1c8ff43be321ef152fc7a2d4314c018cbe9df9c041fc37b878", func := "tumbler/tumblerlaw10.PoolBack", spec := "poolBack", apart := false }
def PoolBackSaid : Prop := poolBackRow.holds Try.pinned (OpenSpec.ofChange poolBackSpec)

/-- ITS FALSE NEIGHBOUR: 'it returns false'. Refute it at one input. -/
def poolBackWrong : ChangeSpec := { name := "poolBack", fn := fun _ => fun
  | [d1, d2, d3] => { results := [.lit (.bool false)], args := [d1, d2, d3] }
  | _ => none }
def PoolBackWrongFalsely : Prop := poolBackRow.holds Try.pinned (OpenSpec.ofChange poolBackWrong)

/-- 'tumblerlaw10.PoolPlays': WHATEVER THE INPUT: true; the input reads as it did. -/
def poolPlaysSpec : ChangeSpec := { name := "poolPlays", fn := fun _ => fun
  | [d1, d2, d3, d4, d5] => { results := [.lit (.bool true)], args := [d1, d2, d3, d4, d5] }
  | _ => none }
def poolPlaysRow : OpenClaim := { program := "ytccioehckfdjdaa", sum := "3ad55834ce133c1c8ff43be321ef152fc7a2d4314c018cbe9df9c041fc37b878", func := "tumbler/tumblerlaw10.PoolPlays", spec := "poolPlays", recurses := true, apart := false }
def PoolPlaysSaid : Prop := poolPlaysRow.holds Try.pinned (OpenSpec.ofChange poolPlaysSpec)

/-- ITS FALSE NEIGHBOUR: 'it returns false'. Refute it at one input. -/
def poolPlaysWrong : ChangeSpec := { name := "poolPlays", fn := fun _ => fun
  | [d1, d2, d3, d4, d5] => { results := [.lit (.bool false)], args := [d1, d2, d3, d4, d5] }
  | _ => none }
def PoolPlaysWrongFalsely : Prop := poolPlaysRow.holds Try.pinned (OpenSpec.ofChange poolPlaysWrong)

/-- 'tumblerlaw10.PoolCounts': WHATEVER THE INPUT: true; the input reads as it did. -/
def poolCountsSpec : ChangeSpec := { name := "poolCounts", fn := fun _ => fun
  | [d1, d2, d3] => { results := [.lit (.bool true)], args := [d1, d2, d3] }
  | _ => none }
def poolCountsRow : OpenClaim := { program := "ytccioehckfdjdaa", sum := "3ad55834ce133c1c8ff43be321ef152fc7a2d4314c018cbe9df9c041fc37b878", func := "tumbler/tumblerlaw10.PoolCounts", spec := "poolCounts", apart := false }
def PoolCountsSaid : Prop := poolCountsRow.holds Try.pinned (OpenSpec.ofChange poolCountsSpec)

/-- ITS FALSE NEIGHBOUR: 'it returns false'. Refute it at one input. -/
def poolCountsWrong : ChangeSpec := { name := "poolCounts", fn := fun _ => fun
  | [d1, d2, d3] => { results := [.lit (.bool false)], args := [d1, d2, d3] }
  | _ => none }
def PoolCountsWrongFalsely : Prop := poolCountsRow.holds Try.pinned (OpenSpec.ofChange poolCountsWrong)

/-- 'tumblerlaw12.HelpPlays': WHATEVER THE INPUT: true; the input reads as it did. -/
def helpPlaysSpec : ChangeSpec := { name := "helpPlays", fn := fun _ => fun
  | [d1, d2, d3, d4, d5, d6, d7] => { results := [.lit (.bool true)], args := [d1, d2, d3, d4, d5, d6, d7] }
  | _ => none }
def helpPlaysRow : OpenClaim := { program := "ytccioehckfdjdaa", sum := "3ad55834ce133c1c8ff43be321ef152fc7a2d4314c018cbe9df9c041fc37b878", func := "tumbler/tumblerlaw12.HelpPlays", spec := "helpPlays", recurses := true, apart := false }
def HelpPlaysSaid : Prop := helpPlaysRow.holds Try.pinned (OpenSpec.ofChange helpPlaysSpec)

/-- ITS FALSE NEIGHBOUR: 'it returns false'. Refute it at one input. -/
def helpPlaysWrong : ChangeSpec := { name := "helpPlays", fn := fun _ => fun
  | [d1, d2, d3, d4, d5, d6, d7] => { results := [.lit (.bool false)], args := [d1, d2, d3, d4, d5, d6, d7] }
  | _ => none }
def HelpPlaysWrongFalsely : Prop := helpPlaysRow.holds Try.pinned (OpenSpec.ofChange helpPlaysWrong)

/-- 'tumblerlaw12.HelpSlots': WHATEVER THE INPUT: true; the input reads as it did. -/
def helpSlotsSpec : ChangeSpec := { name := "helpSlots", fn := fun _ => fun
  | [d1, d2, d3, d4, d5, d6, d7] => { results := [.lit (.bool true)], args := [d1, d2, d3, d4, d5, d6, d7] }
  | _ => none }
def helpSlotsRow : OpenClaim := { program := "ytccioehckfdjdaa", sum := "3ad55834ce133c1c8ff43be321ef152fc7a2d4314c018cbe9df9c041fc37b878", func := "tumbler/tumblerlaw12.HelpSlots", spec := "helpSlots", apart := false }
def HelpSlotsSaid : Prop := helpSlotsRow.holds Try.pinned (OpenSpec.ofChange helpSlotsSpec)

/-- ITS FALSE NEIGHBOUR: 'it returns false'. Refute it at one input. -/
def helpSlotsWrong : ChangeSpec := { name := "helpSlots", fn := fun _ => fun
  | [d1, d2, d3, d4, d5, d6, d7] => { results := [.lit (.bool false)], args := [d1, d2, d3, d4, d5, d6, d7] }
  | _ => none }
def HelpSlotsWrongFalsely : Prop := helpSlotsRow.holds Try.pinned (OpenSpec.ofChange helpSlotsWrong)

/-- 'tumblerlaw12.HelpSteps': WHATEVER THE INPUT: true; the input reads as it did. -/
def helpStepsSpec : ChangeSpec := { name := "helpSteps", fn := fun _ => fun
  | [d1, d2, d3, d4, d5] => { results := [.lit (.bool true)], args := [d1, d2, d3, d4, d5] }
  | _ => none }
def helpStepsRow : OpenClaim := { program := "ytccioehckfdjdaa", sum := "3ad55834ce133c1c8ff43be321ef152fc7a2d4314c018cbe9df9c041fc37b878", func := "tumbler/tumblerlaw12.HelpSteps", spec := "helpSteps", apart := false }
def HelpStepsSaid : Prop := helpStepsRow.holds Try.pinned (OpenSpec.ofChange helpStepsSpec)

/-- ITS FALSE NEIGHBOUR: 'it returns false'. Refute it at one input. -/
def helpStepsWrong : ChangeSpec := { name := "helpSteps", fn := fun _ => fun
  | [d1, d2, d3, d4, d5] => { results := [.lit (.bool false)], args := [d1, d2, d3, d4, d5] }
  | _ => none }
def HelpStepsWrongFalsely : Prop := helpStepsRow.holds Try.pinned (OpenSpec.ofChange helpStepsWrong)

/-- 'tumblerlaw12.HelpLate': WHATEVER THE INPUT: true; the input reads as it did. -/
def helpLateSpec : ChangeSpec := { name := "helpLate", fn := fun _ => fun
  | [d1, d2, d3, d4] => { results := [.lit (.bool true)], args := [d1, d2, d3, d4] }
  | _ => none }
def helpLateRow : OpenClaim := { program := "ytccioehckfdjdaa", sum := "3ad55834ce133c1c8ff43be321ef152fc7a2d4314c018cbe9df9c041fc37b878", func := "tumbler/tumblerlaw12.HelpLate", spec := "helpLate", recurses := true, apart := false }
def HelpLateSaid : Prop := helpLateRow.holds Try.pinned (OpenSpec.ofChange helpLateSpec)

/-- ITS FALSE NEIGHBOUR: 'it returns false'. Refute it at one input. -/
def helpLateWrong : ChangeSpec := { name := "helpLate", fn := fun _ => fun
  | [d1, d2, d3, d4] => { results := [.lit (.bool false)], args := [d1, d2, d3, d4] }
  | _ => none }
def HelpLateWrongFalsely : Prop := helpLateRow.holds Try.pinned (OpenSpec.ofChange helpLateWrong)

/-- 'tumblerlaw12.HelpMany': WHATEVER THE INPUT: true; the input reads as it did. -/
def helpManySpec : ChangeSpec := { name := "helpMany", fn := fun _ => fun
  | [d1, d2, d3, d4, d5] => { results := [.lit (.bool true)], args := [d1, d2, d3, d4, d5] }
  | _ => none }
def helpManyRow : OpenClaim := { program := "ytccioehckfdjdaa", sum := "3ad55834ce133c1c8ff43be321ef152fc7a2d4314c018cbe9df9c041fc37b878", func := "tumbler/tumblerlaw12.HelpMany", spec := "helpMany", recurses := true, apart := false }
def HelpManySaid : Prop := helpManyRow.holds Try.pinned (OpenSpec.ofChange helpManySpec)

/-- ITS FALSE NEIGHBOUR: 'it returns false'. Refute it at one input. -/
def helpManyWrong : ChangeSpec := { name := "helpMany", fn := fun _ => fun
  | [d1, d2, d3, d4, d5] => { results := [.lit (.bool false)], args := [d1, d2, d3, d4, d5] }
  | _ => none }
def HelpManyWrongFalsely : Prop := helpManyRow.holds Try.pinned (OpenSpec.ofChange helpManyWrong)

/-- 'tumblerlaw13.ScribeHelps': WHATEVER THE INPUT: true; the input reads as it did. -/
def scribeHelpsSpec : ChangeSpec := { name := "scribeHelps", fn := fun _ => fun
  | [d1, d2, d3] => { results := [.lit (.bool true)], args := [d1, d2, d3] }
  | _ => none }
def scribeHelpsRow : OpenClaim := { program := "ytccioehckfdjdaa", sum := "3ad55834ce133c1c8ff43be321ef152fc7a2d4314c018cbe9df9c041fc37b878", func := "tumbler/tumblerlaw13.ScribeHelps", spec := "scribeHelps", recurses := true, apart := false }
def ScribeHelpsSaid : Prop := scribeHelpsRow.holds Try.pinned (OpenSpec.ofChange scribeHelpsSpec)

/-- ITS FALSE NEIGHBOUR: 'it returns false'. Refute it at one input. -/
def scribeHelpsWrong : ChangeSpec := { name := "scribeHelps", fn := fun _ => fun
  | [d1, d2, d3] => { results := [.lit (.bool false)], args := [d1, d2, d3] }
  | _ => none }
def ScribeHelpsWrongFalsely : Prop := scribeHelpsRow.holds Try.pinned (OpenSpec.ofChange scribeHelpsWrong)

/- THE SECOND FORM. 'bulk': how many values and letters a reading holds, each counted each time it is reached (what is shared counts as often as it is met; a slice's spare places count too). A statement '..UptoSaid' is the law's where the arguments, and the package variables that the reading takes, are together of bulk at most 1048576: NARROWER than '..Said'. Prove '..Said' where nothing that the law and all that it calls make is longer than what came in: it says more and counts as full. Else prove '..UptoSaid'. A law counts once. -/
mutual
def uptoBulk {H : Type} : DataW H → Nat
  | .lit (.string bytes) => bytes.length + 1
  | .lit _ => 1
  | .nil => 1
  | .ptr d => uptoBulk d + 1
  | .slice elems spare => uptoBulkAll elems + uptoBulkAll spare + 1
  | .agg parts => uptoBulkAll parts + 1
  | .iface _ d => uptoBulk d + 1
  | .map entries => uptoBulkEntries entries + 1
  | .held _ => 1
def uptoBulkAll {H : Type} : List (DataW H) → Nat
  | [] => 0
  | d :: r => uptoBulk d + uptoBulkAll r
def uptoBulkEntries {H : Type} : List (Lit × DataW H) → Nat
  | [] => 0
  | x :: r => uptoBulkEntry x + uptoBulkEntries r
def uptoBulkEntry {H : Type} : Lit × DataW H → Nat
  | (.string bytes, d) => bytes.length + uptoBulk d + 1
  | (_, d) => uptoBulk d + 1
 end
def uptoSmall : (H : Type) → List (DataW H) → Bool := fun _ ds => decide (uptoBulkAll ds ≤ 1048576)
def OpenSpec.upto (s : _root_.Go.ChangeSpec) : _root_.Go.OpenSpec := { _root_.Go.OpenSpec.ofChange s with cond := some uptoSmall }

/-- 'tumblerlaw09.ViewPlays', WHERE WHAT IT READS IS OF BULK AT MOST 1048576: true; the input reads as it did. -/
def viewPlaysUptoRow : OpenClaim := { program := "ytccioehckfdjdaa", sum := "3ad55834ce133c1c8ff43be321ef152fc7a2d4314c018cbe9df9c041fc37b878", func := "tumbler/tumblerlaw09.ViewPlays", spec := "viewPlays", recurses := true, apart := false, narrowed := true }
def ViewPlaysUptoSaid : Prop := viewPlaysUptoRow.holds Try.pinned (OpenSpec.upto viewPlaysSpec)

/-- 'tumblerlaw10.PoolReads', WHERE WHAT IT READS IS OF BULK AT MOST 1048576: true; the input reads as it did. -/
def poolReadsUptoRow : OpenClaim := { program := "ytccioehckfdjdaa", sum := "3ad55834ce133c1c8ff43be321ef152fc7a2d4314c018cbe9df9c041fc37b878", func := "tumbler/tumblerlaw10.PoolReads", spec := "poolReads", recurses := true, apart := false, narrowed := true }
def PoolReadsUptoSaid : Prop := poolReadsUptoRow.holds Try.pinned (OpenSpec.upto poolReadsSpec)

/-- 'tumblerlaw10.PoolFrees', WHERE WHAT IT READS IS OF BULK AT MOST 1048576: true; the input reads as it did. -/
def poolFreesUptoRow : OpenClaim := { program := "ytccioehckfdjdaa", sum := "3ad55834ce133c1c8ff43be321ef152fc7a2d4314c018cbe9df9c041fc37b878", func := "tumbler/tumblerlaw10.PoolFrees", spec := "poolFrees", apart := false, narrowed := true }
def PoolFreesUptoSaid : Prop := poolFreesUptoRow.holds Try.pinned (OpenSpec.upto poolFreesSpec)

/-- 'tumblerlaw10.PoolBack', WHERE WHAT IT READS IS OF BULK AT MOST 1048576: true; the input reads as it did. -/
def poolBackUptoRow : OpenClaim := { program := "ytccioehckfdjdaa", sum := "3ad55834ce133c1c8ff43be321ef152fc7a2d4314c018cbe9df9c041fc37b878", func := "tumbler/tumblerlaw10.PoolBack", spec := "poolBack", apart := false, narrowed := true }
def PoolBackUptoSaid : Prop := poolBackUptoRow.holds Try.pinned (OpenSpec.upto poolBackSpec)

/-- 'tumblerlaw10.PoolPlays', WHERE WHAT IT READS IS OF BULK AT MOST 1048576: true; the input reads as it did. -/
def poolPlaysUptoRow : OpenClaim := { program := "ytccioehckfdjdaa", sum := "3ad55834ce133c1c8ff43be321ef152fc7a2d4314c018cbe9df9c041fc37b878", func := "tumbler/tumblerlaw10.PoolPlays", spec := "poolPlays", recurses := true, apart := false, narrowed := true }
def PoolPlaysUptoSaid : Prop := poolPlaysUptoRow.holds Try.pinned (OpenSpec.upto poolPlaysSpec)

/-- 'tumblerlaw10.PoolCounts', WHERE WHAT IT READS IS OF BULK AT MOST 1048576: true; the input reads as it did. -/
def poolCountsUptoRow : OpenClaim := { program := "ytccioehckfdjdaa", sum := "3ad55834ce133c1c8ff43be321ef152fc7a2d4314c018cbe9df9c041fc37b878", func := "tumbler/tumblerlaw10.PoolCounts", spec := "poolCounts", apart := false, narrowed := true }
def PoolCountsUptoSaid : Prop := poolCountsUptoRow.holds Try.pinned (OpenSpec.upto poolCountsSpec)

/-- 'tumblerlaw12.HelpPlays', WHERE WHAT IT READS IS OF BULK AT MOST 1048576: true; the input reads as it did. -/
def helpPlaysUptoRow : OpenClaim := { program := "ytccioehckfdjdaa", sum := "3ad55834ce133c1c8ff43be321ef152fc7a2d4314c018cbe9df9c041fc37b878", func := "tumbler/tumblerlaw12.HelpPlays", spec := "helpPlays", recurses := true, apart := false, narrowed := true }
def HelpPlaysUptoSaid : Prop := helpPlaysUptoRow.holds Try.pinned (OpenSpec.upto helpPlaysSpec)

/-- 'tumblerlaw12.HelpSlots', WHERE WHAT IT READS IS OF BULK AT MOST 1048576: true; the input reads as it did. -/
def helpSlotsUptoRow : OpenClaim := { program := "ytccioehckfdjdaa", sum := "3ad55834ce133c1c8ff43be321ef152fc7a2d4314c018cbe9df9c041fc37b878", func := "tumbler/tumblerlaw12.HelpSlots", spec := "helpSlots", apart := false, narrowed := true }
def HelpSlotsUptoSaid : Prop := helpSlotsUptoRow.holds Try.pinned (OpenSpec.upto helpSlotsSpec)

/-- 'tumblerlaw12.HelpSteps', WHERE WHAT IT READS IS OF BULK AT MOST 1048576: true; the input reads as it did. -/
def helpStepsUptoRow : OpenClaim := { program := "ytccioehckfdjdaa", sum := "3ad55834ce133c1c8ff43be321ef152fc7a2d4314c018cbe9df9c041fc37b878", func := "tumbler/tumblerlaw12.HelpSteps", spec := "helpSteps", apart := false, narrowed := true }
def HelpStepsUptoSaid : Prop := helpStepsUptoRow.holds Try.pinned (OpenSpec.upto helpStepsSpec)

/-- 'tumblerlaw12.HelpLate', WHERE WHAT IT READS IS OF BULK AT MOST 1048576: true; the input reads as it did. -/
def helpLateUptoRow : OpenClaim := { program := "ytccioehckfdjdaa", sum := "3ad55834ce133c1c8ff43be321ef152fc7a2d4314c018cbe9df9c041fc37b878", func := "tumbler/tumblerlaw12.HelpLate", spec := "helpLate", recurses := true, apart := false, narrowed := true }
def HelpLateUptoSaid : Prop := helpLateUptoRow.holds Try.pinned (OpenSpec.upto helpLateSpec)

/-- 'tumblerlaw12.HelpMany', WHERE WHAT IT READS IS OF BULK AT MOST 1048576: true; the input reads as it did. -/
def helpManyUptoRow : OpenClaim := { program := "ytccioehckfdjdaa", sum := "3ad55834ce133c1c8ff43be321ef152fc7a2d4314c018cbe9df9c041fc37b878", func := "tumbler/tumblerlaw12.HelpMany", spec := "helpMany", recurses := true, apart := false, narrowed := true }
def HelpManyUptoSaid : Prop := helpManyUptoRow.holds Try.pinned (OpenSpec.upto helpManySpec)

/-- 'tumblerlaw13.ScribeHelps', WHERE WHAT IT READS IS OF BULK AT MOST 1048576: true; the input reads as it did. -/
def scribeHelpsUptoRow : OpenClaim := { program := "ytccioehckfdjdaa", sum := "3ad55834ce133c1c8ff43be321ef152fc7a2d4314c018cbe9df9c041fc37b878", func := "tumbler/tumblerlaw13.ScribeHelps", spec := "scribeHelps", recurses := true, apart := false, narrowed := true }
def ScribeHelpsUptoSaid : Prop := scribeHelpsUptoRow.holds Try.pinned (OpenSpec.upto scribeHelpsSpec)

end Rows
end Go.Proofs.Ytccioehckfdjdaa
