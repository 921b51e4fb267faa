/-
  No cell of these rows narrows 'for every input' (looked for: loops, veiled, ifaces, maps, wideKeys, modest, calm, conditions, laid).
  DERIVED. THE GIVEN ROWS OF THIS SEAT. 6 by the template 'for every input the law returns true; each argument reads behind the call as it read before'; 0 by the template 'total and deterministic' (their statements: YtbgmcekbldponaaTotals.lean).
  GIVEN WITH THE SEED: the statements are not yours to turn. If you find one false, say at which input.
  Laid BY PROGRAM, IN A SANDBOX (cutbox-rows.mjs): the forced cells as the released guide's own fill.sh prints them over the translation 7b4a70df001f50ef… (all of the seat's roots in one cut). By AI agents, Wed Nov 11 2026. No macro, syntax, notation, axiom, sorry.
-/
import Derived.Test.YtbgmcekbldponaaChecked
import GoSem.Claim
import GoSem.ClaimJoined
import GoSem.ClaimMapViews
import Derived.JoinedTies
import Derived.KernelRfl
namespace Go.Proofs.Ytbgmcekbldponaa
/- THE CELL 'sum', in the pinned program and in every row, IS THE sha256 OF THE DUMP (.gsa) THAT YtbgmcekbldponaaProg.lean LOADS. Nothing in Lean hashes anything: it is a label: what it is worth is what the hold of that sum in a sandbox is worth. -/
noncomputable def Try.pinned : Pinned := { name := "ytbgmcekbldponaa", sum := "7b4a70df001f50ef299ebb65416ba33bcbd19d6c95b9917e8fa3162c58b27a57", checked := Try.checked }
namespace Rows
def none {H : Type} : Left H := { results := [], args := [] }

/-- 'tumblerlaw01.CellPlays': WHATEVER THE INPUT: true; the input reads as it did. -/
def cellPlaysSpec : ChangeSpec := { name := "cellPlays", fn := fun _ => fun
  | [d1, d2, d3] => { results := [.lit (.bool true)], args := [d1, d2, d3] }
  | _ => none }
def cellPlaysRow : OpenClaim := { program := "ytbgmcekbldponaa", sum := "7b4a70df001f50ef299ebb65416ba33bcbd19d6c95b9917e8fa3162c58b27a57", func := "tumbler/tumblerlaw01.CellPlays", spec := "cellPlays", apart := false }
def CellPlaysSaid : Prop := cellPlaysRow.holds Try.pinned (OpenSpec.ofChange cellPlaysSpec)

/-- ITS FALSE NEIGHBOUR: 'it returns false'. Refute it at one input. -/
def cellPlaysWrong : ChangeSpec := { name := "cellPlays", fn := fun _ => fun
  | [d1, d2, d3] => { results := [.lit (.bool false)], args := [d1, d2, d3] }
  | _ => none }
def CellPlaysWrongFalsely : Prop := cellPlaysRow.holds Try.pinned (OpenSpec.ofChange cellPlaysWrong)

/-- 'tumblerlaw01.CellSwaps': WHATEVER THE INPUT: true; the input reads as it did. -/
def cellSwapsSpec : ChangeSpec := { name := "cellSwaps", fn := fun _ => fun
  | [d1, d2, d3, d4] => { results := [.lit (.bool true)], args := [d1, d2, d3, d4] }
  | _ => none }
def cellSwapsRow : OpenClaim := { program := "ytbgmcekbldponaa", sum := "7b4a70df001f50ef299ebb65416ba33bcbd19d6c95b9917e8fa3162c58b27a57", func := "tumbler/tumblerlaw01.CellSwaps", spec := "cellSwaps", apart := false }
def CellSwapsSaid : Prop := cellSwapsRow.holds Try.pinned (OpenSpec.ofChange cellSwapsSpec)

/-- ITS FALSE NEIGHBOUR: 'it returns false'. Refute it at one input. -/
def cellSwapsWrong : ChangeSpec := { name := "cellSwaps", fn := fun _ => fun
  | [d1, d2, d3, d4] => { results := [.lit (.bool false)], args := [d1, d2, d3, d4] }
  | _ => none }
def CellSwapsWrongFalsely : Prop := cellSwapsRow.holds Try.pinned (OpenSpec.ofChange cellSwapsWrong)

/-- 'tumblerlaw01.CellAdds': WHATEVER THE INPUT: true; the input reads as it did. -/
def cellAddsSpec : ChangeSpec := { name := "cellAdds", fn := fun _ => fun
  | [d1, d2, d3] => { results := [.lit (.bool true)], args := [d1, d2, d3] }
  | _ => none }
def cellAddsRow : OpenClaim := { program := "ytbgmcekbldponaa", sum := "7b4a70df001f50ef299ebb65416ba33bcbd19d6c95b9917e8fa3162c58b27a57", func := "tumbler/tumblerlaw01.CellAdds", spec := "cellAdds", apart := false }
def CellAddsSaid : Prop := cellAddsRow.holds Try.pinned (OpenSpec.ofChange cellAddsSpec)

/-- ITS FALSE NEIGHBOUR: 'it returns false'. Refute it at one input. -/
def cellAddsWrong : ChangeSpec := { name := "cellAdds", fn := fun _ => fun
  | [d1, d2, d3] => { results := [.lit (.bool false)], args := [d1, d2, d3] }
  | _ => none }
def CellAddsWrongFalsely : Prop := cellAddsRow.holds Try.pinned (OpenSpec.ofChange cellAddsWrong)

/-- 'tumblerlaw01.CellTrace': WHATEVER THE INPUT: true; the input reads as it did. -/
def cellTraceSpec : ChangeSpec := { name := "cellTrace", fn := fun _ => fun
  | [d1, d2] => { results := [.lit (.bool true)], args := [d1, d2] }
  | _ => none }
def cellTraceRow : OpenClaim := { program := "ytbgmcekbldponaa", sum := "7b4a70df001f50ef299ebb65416ba33bcbd19d6c95b9917e8fa3162c58b27a57", func := "tumbler/tumblerlaw01.CellTrace", spec := "cellTrace", apart := false }
def CellTraceSaid : Prop := cellTraceRow.holds Try.pinned (OpenSpec.ofChange cellTraceSpec)

/-- ITS FALSE NEIGHBOUR: 'it returns false'. Refute it at one input. -/
def cellTraceWrong : ChangeSpec := { name := "cellTrace", fn := fun _ => fun
  | [d1, d2] => { results := [.lit (.bool false)], args := [d1, d2] }
  | _ => none }
def CellTraceWrongFalsely : Prop := cellTraceRow.holds Try.pinned (OpenSpec.ofChange cellTraceWrong)

/-- 'tumblerlaw01.CellClones': WHATEVER THE INPUT: true; the input reads as it did. -/
def cellClonesSpec : ChangeSpec := { name := "cellClones", fn := fun _ => fun
  | [d1, d2, d3] => { results := [.lit (.bool true)], args := [d1, d2, d3] }
  | _ => none }
def cellClonesRow : OpenClaim := { program := "ytbgmcekbldponaa", sum := "7b4a70df001f50ef299ebb65416ba33bcbd19d6c95b9917e8fa3162c58b27a57", func := "tumbler/tumblerlaw01.CellClones", spec := "cellClones", apart := false }
def CellClonesSaid : Prop := cellClonesRow.holds Try.pinned (OpenSpec.ofChange cellClonesSpec)

/-- ITS FALSE NEIGHBOUR: 'it returns false'. Refute it at one input. -/
def cellClonesWrong : ChangeSpec := { name := "cellClones", fn := fun _ => fun
  | [d1, d2, d3] => { results := [.lit (.bool false)], args := [d1, d2, d3] }
  | _ => none }
def CellClonesWrongFalsely : Prop := cellClonesRow.holds Try.pinned (OpenSpec.ofChange cellClonesWrong)

/-- 'tumblerlaw01.CellApart': WHATEVER THE INPUT: true; the input reads as it did. -/
def cellApartSpec : ChangeSpec := { name := "cellApart", fn := fun _ => fun
  | [d1, d2, d3] => { results := [.lit (.bool true)], args := [d1, d2, d3] }
  | _ => none }
def cellApartRow : OpenClaim := { program := "ytbgmcekbldponaa", sum := "7b4a70df001f50ef299ebb65416ba33bcbd19d6c95b9917e8fa3162c58b27a57", func := "tumbler/tumblerlaw01.CellApart", spec := "cellApart", apart := false }
def CellApartSaid : Prop := cellApartRow.holds Try.pinned (OpenSpec.ofChange cellApartSpec)

/-- ITS FALSE NEIGHBOUR: 'it returns false'. Refute it at one input. -/
def cellApartWrong : ChangeSpec := { name := "cellApart", fn := fun _ => fun
  | [d1, d2, d3] => { results := [.lit (.bool false)], args := [d1, d2, d3] }
  | _ => none }
def CellApartWrongFalsely : Prop := cellApartRow.holds Try.pinned (OpenSpec.ofChange cellApartWrong)

/- THE SECOND FORM. 'bulk': how many values and letters a reading holds, each counted each time it is reached (what is shared counts as often as it is met; a slice's spare places count too). A statement '..UptoSaid' is the law's where the arguments, and the package variables that the reading takes, are together of bulk at most 1048576: NARROWER than '..Said'. Prove '..Said' where nothing that the law and all that it calls make is longer than what came in: it says more and counts as full. Else prove '..UptoSaid'. A law counts once. -/
mutual
def uptoBulk {H : Type} : DataW H → Nat
  | .lit (.string bytes) => bytes.length + 1
  | .lit _ => 1
  | .nil => 1
  | .ptr d => uptoBulk d + 1
  | .slice elems spare => uptoBulkAll elems + uptoBulkAll spare + 1
  | .agg parts => uptoBulkAll parts + 1
  | .iface _ d => uptoBulk d + 1
  | .map entries => uptoBulkEntries entries + 1
  | .held _ => 1
def uptoBulkAll {H : Type} : List (DataW H) → Nat
  | [] => 0
  | d :: r => uptoBulk d + uptoBulkAll r
def uptoBulkEntries {H : Type} : List (Lit × DataW H) → Nat
  | [] => 0
  | x :: r => uptoBulkEntry x + uptoBulkEntries r
def uptoBulkEntry {H : Type} : Lit × DataW H → Nat
  | (.string bytes, d) => bytes.length + uptoBulk d + 1
  | (_, d) => uptoBulk d + 1
 end
def uptoSmall : (H : Type) → List (DataW H) → Bool := fun _ ds => decide (uptoBulkAll ds ≤ 1048576)
def OpenSpec.upto (s : _root_.Go.ChangeSpec) : _root_.Go.OpenSpec := { _root_.Go.OpenSpec.ofChange s with cond := some uptoSmall }

/-- 'tumblerlaw01.CellPlays', WHERE WHAT IT READS IS OF BULK AT MOST 1048576: true; the input reads as it did. -/
def cellPlaysUptoRow : OpenClaim := { program := "ytbgmcekbldponaa", sum := "7b4a70df001f50ef299ebb65416ba33bcbd19d6c95b9917e8fa3162c58b27a57", func := "tumbler/tumblerlaw01.CellPlays", spec := "cellPlays", apart := false, narrowed := true }
def CellPlaysUptoSaid : Prop := cellPlaysUptoRow.holds Try.pinned (OpenSpec.upto cellPlaysSpec)

/-- 'tumblerlaw01.CellSwaps', WHERE WHAT IT READS IS OF BULK AT MOST 1048576: true; the input reads as it did. -/
def cellSwapsUptoRow : OpenClaim := { program := "ytbgmcekbldponaa", sum := "7b4a70df001f50ef299ebb65416ba33bcbd19d6c95b9917e8fa3162c58b27a57", func := "tumbler/tumblerlaw01.CellSwaps", spec := "cellSwaps", apart := false, narrowed := true }
def CellSwapsUptoSaid : Prop := cellSwapsUptoRow.holds Try.pinned (OpenSpec.upto cellSwapsSpec)

/-- 'tumblerlaw01.CellAdds', WHERE WHAT IT READS IS OF BULK AT MOST 1048576: true; the input reads as it did. -/
def cellAddsUptoRow : OpenClaim := { program := "ytbgmcekbldponaa", sum := "7b4a70df001f50ef299ebb65416ba33bcbd19d6c95b9917e8fa3162c58b27a57", func := "tumbler/tumblerlaw01.CellAdds", spec := "cellAdds", apart := false, narrowed := true }
def CellAddsUptoSaid : Prop := cellAddsUptoRow.holds Try.pinned (OpenSpec.upto cellAddsSpec)

/-- 'tumblerlaw01.CellTrace', WHERE WHAT IT READS IS OF BULK AT MOST 1048576: true; the input reads as it did. -/
def cellTraceUptoRow : OpenClaim := { program := "ytbgmcekbldponaa", sum := "7b4a70df001f50ef299ebb65416ba33bcbd19d6c95b9917e8fa3162c58b27a57", func := "tumbler/tumblerlaw01.CellTrace", spec := "cellTrace", apart := false, narrowed := true }
def CellTraceUptoSaid : Prop := cellTraceUptoRow.holds Try.pinned (OpenSpec.upto cellTraceSpec)

/-- 'tumblerlaw01.CellClones', WHERE WHAT IT READS IS OF BULK AT MOST 1048576: true; the input reads as it did. -/
def cellClonesUptoRow : OpenClaim := { program := "ytbgmcekbldponaa", sum := "7b4a70df001f50ef299ebb65416ba33bcbd19d6c95b9917e8fa3162c58b27a57", func := "tumbler/tumblerlaw01.CellClones", spec := "cellClones", apart := false, narrowed := true }
def CellClonesUptoSaid : Prop := cellClonesUptoRow.holds Try.pinned (OpenSpec.upto cellClonesSpec)

/-- 'tumblerlaw01.CellApart', WHERE WHAT IT READS IS OF BULK AT MOST 1048576: true; the input reads as it did. -/
def cellApartUptoRow : OpenClaim := { program := "ytbgmcekbldponaa", sum := "7b4a70df001f50ef299ebb65416ba33bcbd19d6c95b9917e8fa3162c58b27a57", func := "tumbler/tumblerlaw01.CellApart", spec := "cellApart", apart := false, narrowed := true }
def CellApartUptoSaid : Prop := cellApartUptoRow.holds Try.pinned (OpenSpec.upto cellApartSpec)

end Rows
end Go.Proofs.Ytbgmcekbldponaa
