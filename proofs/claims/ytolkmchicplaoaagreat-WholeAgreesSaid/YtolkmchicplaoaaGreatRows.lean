/-
  No cell of these rows narrows 'for every input' (looked for: loops, veiled, ifaces, maps, wideKeys, modest, calm, conditions, laid).
  DERIVED. THE GIVEN ROWS OF THIS SEAT. 4 by the template 'for every input the law returns true; each argument reads behind the call as it read before'; 0 by the template 'total and deterministic' (their statements: YtolkmchicplaoaaGreatTotals.lean).
  GIVEN WITH THE SEED: the statements are not yours to turn. If you find one false, say at which input.
  Laid BY PROGRAM, IN A SANDBOX (cutbox-rows.mjs): the forced cells as the released guide's own fill.sh prints them over the translation c9e6c762eb24b840… (all of the seat's roots in one cut). By AI agents, Wed Nov 11 2026. No macro, syntax, notation, axiom, sorry.
-/
import Derived.Test.YtolkmchicplaoaaGreatChecked
import GoSem.Claim
import GoSem.ClaimJoined
import GoSem.ClaimMapViews
import Derived.JoinedTies
import Derived.KernelRfl
namespace Go.Proofs.YtolkmchicplaoaaGreat
/- THE CELL 'sum', in the pinned program and in every row, IS THE sha256 OF THE DUMP (.gsa) THAT YtolkmchicplaoaaGreatProg.lean LOADS. Nothing in Lean hashes anything: it is a label: what it is worth is what the hold of that sum in a sandbox is worth. -/
noncomputable def Tryz.pinned : Pinned := { name := "ytolkmchicplaoaagreat", sum := "c9e6c762eb24b8408a99264bdc7e2dd3db72a099a409a5ff587e7960f3244177", checked := Tryz.checked }
namespace Rows
def none {H : Type} : Left H := { results := [], args := [] }

/-- 'tumblertop.WholeAgrees': WHATEVER THE INPUT: true; the input reads as it did. -/
def wholeAgreesSpec : ChangeSpec := { name := "wholeAgrees", fn := fun _ => fun
  | [d1, d2] => { results := [.lit (.bool true)], args := [d1, d2] }
  | _ => none }
def wholeAgreesRow : OpenClaim := { program := "ytolkmchicplaoaagreat", sum := "c9e6c762eb24b8408a99264bdc7e2dd3db72a099a409a5ff587e7960f3244177", func := "tumbler/tumblertop.WholeAgrees", spec := "wholeAgrees", inPlace := ["maps.clone"], unfollowed := true, recurses := true, plainKeys := false, apart := false }
def WholeAgreesSaid : Prop := wholeAgreesRow.holds Tryz.pinned (OpenSpec.ofChange wholeAgreesSpec)

/-- ITS FALSE NEIGHBOUR: 'it returns false'. Refute it at one input. -/
def wholeAgreesWrong : ChangeSpec := { name := "wholeAgrees", fn := fun _ => fun
  | [d1, d2] => { results := [.lit (.bool false)], args := [d1, d2] }
  | _ => none }
def WholeAgreesWrongFalsely : Prop := wholeAgreesRow.holds Tryz.pinned (OpenSpec.ofChange wholeAgreesWrong)

/-- 'tumblertop.WholeStacks': WHATEVER THE INPUT: true; the input reads as it did. -/
def wholeStacksSpec : ChangeSpec := { name := "wholeStacks", fn := fun _ => fun
  | [d1, d2] => { results := [.lit (.bool true)], args := [d1, d2] }
  | _ => none }
def wholeStacksRow : OpenClaim := { program := "ytolkmchicplaoaagreat", sum := "c9e6c762eb24b8408a99264bdc7e2dd3db72a099a409a5ff587e7960f3244177", func := "tumbler/tumblertop.WholeStacks", spec := "wholeStacks", inPlace := ["maps.clone"], unfollowed := true, recurses := true, plainKeys := false, apart := false }
def WholeStacksSaid : Prop := wholeStacksRow.holds Tryz.pinned (OpenSpec.ofChange wholeStacksSpec)

/-- ITS FALSE NEIGHBOUR: 'it returns false'. Refute it at one input. -/
def wholeStacksWrong : ChangeSpec := { name := "wholeStacks", fn := fun _ => fun
  | [d1, d2] => { results := [.lit (.bool false)], args := [d1, d2] }
  | _ => none }
def WholeStacksWrongFalsely : Prop := wholeStacksRow.holds Tryz.pinned (OpenSpec.ofChange wholeStacksWrong)

/-- 'tumblertop.WholeQuiet': WHATEVER THE INPUT: true; the input reads as it did. -/
def wholeQuietSpec : ChangeSpec := { name := "wholeQuiet", fn := fun _ => fun
  | [d1, d2, d3, d4] => { results := [.lit (.bool true)], args := [d1, d2, d3, d4] }
  | _ => none }
def wholeQuietRow : OpenClaim := { program := "ytolkmchicplaoaagreat", sum := "c9e6c762eb24b8408a99264bdc7e2dd3db72a099a409a5ff587e7960f3244177", func := "tumbler/tumblertop.WholeQuiet", spec := "wholeQuiet", inPlace := ["maps.clone"], unfollowed := true, recurses := true, plainKeys := false, apart := false }
def WholeQuietSaid : Prop := wholeQuietRow.holds Tryz.pinned (OpenSpec.ofChange wholeQuietSpec)

/-- ITS FALSE NEIGHBOUR: 'it returns false'. Refute it at one input. -/
def wholeQuietWrong : ChangeSpec := { name := "wholeQuiet", fn := fun _ => fun
  | [d1, d2, d3, d4] => { results := [.lit (.bool false)], args := [d1, d2, d3, d4] }
  | _ => none }
def WholeQuietWrongFalsely : Prop := wholeQuietRow.holds Tryz.pinned (OpenSpec.ofChange wholeQuietWrong)

/-- 'tumblertop.WholeHelps': WHATEVER THE INPUT: true; the input reads as it did. -/
def wholeHelpsSpec : ChangeSpec := { name := "wholeHelps", fn := fun _ => fun
  | [d1, d2, d3, d4] => { results := [.lit (.bool true)], args := [d1, d2, d3, d4] }
  | _ => none }
def wholeHelpsRow : OpenClaim := { program := "ytolkmchicplaoaagreat", sum := "c9e6c762eb24b8408a99264bdc7e2dd3db72a099a409a5ff587e7960f3244177", func := "tumbler/tumblertop.WholeHelps", spec := "wholeHelps", inPlace := ["maps.clone"], unfollowed := true, recurses := true, plainKeys := false, apart := false }
def WholeHelpsSaid : Prop := wholeHelpsRow.holds Tryz.pinned (OpenSpec.ofChange wholeHelpsSpec)

/-- ITS FALSE NEIGHBOUR: 'it returns false'. Refute it at one input. -/
def wholeHelpsWrong : ChangeSpec := { name := "wholeHelps", fn := fun _ => fun
  | [d1, d2, d3, d4] => { results := [.lit (.bool false)], args := [d1, d2, d3, d4] }
  | _ => none }
def WholeHelpsWrongFalsely : Prop := wholeHelpsRow.holds Tryz.pinned (OpenSpec.ofChange wholeHelpsWrong)

/- THE SECOND FORM. 'bulk': how many values and letters a reading holds, each counted each time it is reached (what is shared counts as often as it is met; a slice's spare places count too). A statement '..UptoSaid' is the law's where the arguments, and the package variables that the reading takes, are together of bulk at most 1048576: NARROWER than '..Said'. Prove '..Said' where nothing that the law and all that it calls make is longer than what came in: it says more and counts as full. Else prove '..UptoSaid'. A law counts once. -/
mutual
def uptoBulk {H : Type} : DataW H → Nat
  | .lit (.string bytes) => bytes.length + 1
  | .lit _ => 1
  | .nil => 1
  | .ptr d => uptoBulk d + 1
  | .slice elems spare => uptoBulkAll elems + uptoBulkAll spare + 1
  | .agg parts => uptoBulkAll parts + 1
  | .iface _ d => uptoBulk d + 1
  | .map entries => uptoBulkEntries entries + 1
  | .held _ => 1
def uptoBulkAll {H : Type} : List (DataW H) → Nat
  | [] => 0
  | d :: r => uptoBulk d + uptoBulkAll r
def uptoBulkEntries {H : Type} : List (Lit × DataW H) → Nat
  | [] => 0
  | x :: r => uptoBulkEntry x + uptoBulkEntries r
def uptoBulkEntry {H : Type} : Lit × DataW H → Nat
  | (.string bytes, d) => bytes.length + uptoBulk d + 1
  | (_, d) => uptoBulk d + 1
 end
def uptoSmall : (H : Type) → List (DataW H) → Bool := fun _ ds => decide (uptoBulkAll ds ≤ 1048576)
def OpenSpec.upto (s : _root_.Go.ChangeSpec) : _root_.Go.OpenSpec := { _root_.Go.OpenSpec.ofChange s with cond := some uptoSmall }

/-- 'tumblertop.WholeAgrees', WHERE WHAT IT READS IS OF BULK AT MOST 1048576: true; the input reads as it did. -/
def wholeAgreesUptoRow : OpenClaim := { program := "ytolkmchicplaoaagreat", sum := "c9e6c762eb24b8408a99264bdc7e2dd3db72a099a409a5ff587e7960f3244177", func := "tumbler/tumblertop.WholeAgrees", spec := "wholeAgrees", inPlace := ["maps.clone"], unfollowed := true, recurses := true, plainKeys := false, apart := false, narrowed := true }
def WholeAgreesUptoSaid : Prop := wholeAgreesUptoRow.holds Tryz.pinned (OpenSpec.upto wholeAgreesSpec)

/-- 'tumblertop.WholeStacks', WHERE WHAT IT READS IS OF BULK AT MOST 1048576: true; the input reads as it did. -/
def wholeStacksUptoRow : OpenClaim := { program := "ytolkmchicplaoaagreat", sum := "c9e6c762eb24b8408a99264bdc7e2dd3db72a099a409a5ff587e7960f3244177", func := "tumbler/tumblertop.WholeStacks", spec := "wholeStacks", inPlace := ["maps.clone"], unfollowed := true, recurses := true, plainKeys := false, apart := false, narrowed := true }
def WholeStacksUptoSaid : Prop := wholeStacksUptoRow.holds Tryz.pinned (OpenSpec.upto wholeStacksSpec)

/-- 'tumblertop.WholeQuiet', WHERE WHAT IT READS IS OF BULK AT MOST 1048576: true; the input reads as it did. -/
def wholeQuietUptoRow : OpenClaim := { program := "ytolkmchicplaoaagreat", sum := "c9e6c762eb24b8408a99264bdc7e2dd3db72a099a409a5ff587e7960f3244177", func := "tumbler/tumblertop.WholeQuiet", spec := "wholeQuiet", inPlace := ["maps.clone"], unfollowed := true, recurses := true, plainKeys := false, apart := false, narrowed := true }
def WholeQuietUptoSaid : Prop := wholeQuietUptoRow.holds Tryz.pinned (OpenSpec.upto wholeQuietSpec)

/-- 'tumblertop.WholeHelps', WHERE WHAT IT READS IS OF BULK AT MOST 1048576: true; the input reads as it did. -/
def wholeHelpsUptoRow : OpenClaim := { program := "ytolkmchicplaoaagreat", sum := "c9e6c762eb24b8408a99264bdc7e2dd3db72a099a409a5ff587e7960f3244177", func := "tumbler/tumblertop.WholeHelps", spec := "wholeHelps", inPlace := ["maps.clone"], unfollowed := true, recurses := true, plainKeys := false, apart := false, narrowed := true }
def WholeHelpsUptoSaid : Prop := wholeHelpsUptoRow.holds Tryz.pinned (OpenSpec.upto wholeHelpsSpec)

end Rows
end Go.Proofs.YtolkmchicplaoaaGreat
