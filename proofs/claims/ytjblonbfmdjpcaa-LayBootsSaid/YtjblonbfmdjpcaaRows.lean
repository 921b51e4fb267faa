/-
  No cell of these rows narrows 'for every input' (looked for: loops, veiled, ifaces, maps, wideKeys, modest, calm, conditions, laid).
  DERIVED. THE GIVEN ROWS OF THIS SEAT. 5 by the template 'for every input the law returns true; each argument reads behind the call as it read before'; 0 by the template 'total and deterministic' (their statements: YtjblonbfmdjpcaaTotals.lean).
  GIVEN WITH THE SEED: the statements are not yours to turn. If you find one false, say at which input.
  Laid BY PROGRAM, IN A SANDBOX (cutbox-rows.mjs): the forced cells as the released guide's own fill.sh prints them over the translation 26440815d52e338f… (all of the seat's roots in one cut). By AI agents, Wed Nov 11 2026. No macro, syntax, notation, axiom, sorry.
-/
import Derived.Test.YtjblonbfmdjpcaaChecked
import GoSem.Claim
import GoSem.ClaimJoined
import GoSem.ClaimMapViews
import Derived.JoinedTies
import Derived.KernelRfl
namespace Go.Proofs.Ytjblonbfmdjpcaa
/- THE CELL 'sum', in the pinned program and in every row, IS THE sha256 OF THE DUMP (.gsa) THAT YtjblonbfmdjpcaaProg.lean LOADS. Nothing in Lean hashes anything: it is a label: what it is worth is what the hold of that sum in a sandbox is worth. -/
noncomputable def Try.pinned : Pinned := { name := "ytjblonbfmdjpcaa", sum := "26440815d52e338f97adff30a1b1808650f0792ac82b60dceb391105d6845a7d", checked := Try.checked }
namespace Rows
def none {H : Type} : Left H := { results := [], args := [] }

/-- 'tumblerlaw07.LayPlaces': WHATEVER THE INPUT: true; the input reads as it did. -/
def layPlacesSpec : ChangeSpec := { name := "layPlaces", fn := fun _ => fun
  | [d1, d2, d3, d4] => { results := [.lit (.bool true)], args := [d1, d2, d3, d4] }
  | _ => none }
def layPlacesRow : OpenClaim := { program := "ytjblonbfmdjpcaa", sum := "26440815d52e338f97adff30a1b1808650f0792ac82b60dceb391105d6845a7d", func := "tumbler/tumblerlaw07.LayPlaces", spec := "layPlaces", recurses := true, apart := false }
def LayPlacesSaid : Prop := layPlacesRow.holds Try.pinned (OpenSpec.ofChange layPlacesSpec)

/-- ITS FALSE NEIGHBOUR: 'it returns false'. Refute it at one input. -/
def layPlacesWrong : ChangeSpec := { name := "layPlaces", fn := fun _ => fun
  | [d1, d2, d3, d4] => { results := [.lit (.bool false)], args := [d1, d2, d3, d4] }
  | _ => none }
def LayPlacesWrongFalsely : Prop := layPlacesRow.holds Try.pinned (OpenSpec.ofChange layPlacesWrong)

/-- 'tumblerlaw07.LayBack': WHATEVER THE INPUT: true; the input reads as it did. -/
def layBackSpec : ChangeSpec := { name := "layBack", fn := fun _ => fun
  | [d1, d2, d3, d4, d5] => { results := [.lit (.bool true)], args := [d1, d2, d3, d4, d5] }
  | _ => none }
def layBackRow : OpenClaim := { program := "ytjblonbfmdjpcaa", sum := "26440815d52e338f97adff30a1b1808650f0792ac82b60dceb391105d6845a7d", func := "tumbler/tumblerlaw07.LayBack", spec := "layBack", apart := false }
def LayBackSaid : Prop := layBackRow.holds Try.pinned (OpenSpec.ofChange layBackSpec)

/-- ITS FALSE NEIGHBOUR: 'it returns false'. Refute it at one input. -/
def layBackWrong : ChangeSpec := { name := "layBack", fn := fun _ => fun
  | [d1, d2, d3, d4, d5] => { results := [.lit (.bool false)], args := [d1, d2, d3, d4, d5] }
  | _ => none }
def LayBackWrongFalsely : Prop := layBackRow.holds Try.pinned (OpenSpec.ofChange layBackWrong)

/-- 'tumblerlaw07.LayWhats': WHATEVER THE INPUT: true; the input reads as it did. -/
def layWhatsSpec : ChangeSpec := { name := "layWhats", fn := fun _ => fun
  | [d1, d2] => { results := [.lit (.bool true)], args := [d1, d2] }
  | _ => none }
def layWhatsRow : OpenClaim := { program := "ytjblonbfmdjpcaa", sum := "26440815d52e338f97adff30a1b1808650f0792ac82b60dceb391105d6845a7d", func := "tumbler/tumblerlaw07.LayWhats", spec := "layWhats", recurses := true, apart := false }
def LayWhatsSaid : Prop := layWhatsRow.holds Try.pinned (OpenSpec.ofChange layWhatsSpec)

/-- ITS FALSE NEIGHBOUR: 'it returns false'. Refute it at one input. -/
def layWhatsWrong : ChangeSpec := { name := "layWhats", fn := fun _ => fun
  | [d1, d2] => { results := [.lit (.bool false)], args := [d1, d2] }
  | _ => none }
def LayWhatsWrongFalsely : Prop := layWhatsRow.holds Try.pinned (OpenSpec.ofChange layWhatsWrong)

/-- 'tumblerlaw07.LayApart': WHATEVER THE INPUT: true; the input reads as it did. -/
def layApartSpec : ChangeSpec := { name := "layApart", fn := fun _ => fun
  | [d1, d2, d3, d4, d5, d6, d7] => { results := [.lit (.bool true)], args := [d1, d2, d3, d4, d5, d6, d7] }
  | _ => none }
def layApartRow : OpenClaim := { program := "ytjblonbfmdjpcaa", sum := "26440815d52e338f97adff30a1b1808650f0792ac82b60dceb391105d6845a7d", func := "tumbler/tumblerlaw07.LayApart", spec := "layApart", apart := false }
def LayApartSaid : Prop := layApartRow.holds Try.pinned (OpenSpec.ofChange layApartSpec)

/-- ITS FALSE NEIGHBOUR: 'it returns false'. Refute it at one input. -/
def layApartWrong : ChangeSpec := { name := "layApart", fn := fun _ => fun
  | [d1, d2, d3, d4, d5, d6, d7] => { results := [.lit (.bool false)], args := [d1, d2, d3, d4, d5, d6, d7] }
  | _ => none }
def LayApartWrongFalsely : Prop := layApartRow.holds Try.pinned (OpenSpec.ofChange layApartWrong)

/-- 'tumblerlaw07.LayBoots': WHATEVER THE INPUT: true; the input reads as it did. -/
def layBootsSpec : ChangeSpec := { name := "layBoots", fn := fun _ => fun
  | [d] => { results := [.lit (.bool true)], args := [d] }
  | _ => none }
def layBootsRow : OpenClaim := { program := "ytjblonbfmdjpcaa", sum := "26440815d52e338f97adff30a1b1808650f0792ac82b60dceb391105d6845a7d", func := "tumbler/tumblerlaw07.LayBoots", spec := "layBoots", recurses := true, apart := false }
def LayBootsSaid : Prop := layBootsRow.holds Try.pinned (OpenSpec.ofChange layBootsSpec)

/-- ITS FALSE NEIGHBOUR: 'it returns false'. Refute it at one input. -/
def layBootsWrong : ChangeSpec := { name := "layBoots", fn := fun _ => fun
  | [d] => { results := [.lit (.bool false)], args := [d] }
  | _ => none }
def LayBootsWrongFalsely : Prop := layBootsRow.holds Try.pinned (OpenSpec.ofChange layBootsWrong)

/- THE SECOND FORM. 'bulk': how many values and letters a reading holds, each counted each time it is reached (what is shared counts as often as it is met; a slice's spare places count too). A statement '..UptoSaid' is the law's where the arguments, and the package variables that the reading takes, are together of bulk at most 1048576: NARROWER than '..Said'. Prove '..Said' where nothing that the law and all that it calls make is longer than what came in: it says more and counts as full. Else prove '..UptoSaid'. A law counts once. -/
mutual
def uptoBulk {H : Type} : DataW H → Nat
  | .lit (.string bytes) => bytes.length + 1
  | .lit _ => 1
  | .nil => 1
  | .ptr d => uptoBulk d + 1
  | .slice elems spare => uptoBulkAll elems + uptoBulkAll spare + 1
  | .agg parts => uptoBulkAll parts + 1
  | .iface _ d => uptoBulk d + 1
  | .map entries => uptoBulkEntries entries + 1
  | .held _ => 1
def uptoBulkAll {H : Type} : List (DataW H) → Nat
  | [] => 0
  | d :: r => uptoBulk d + uptoBulkAll r
def uptoBulkEntries {H : Type} : List (Lit × DataW H) → Nat
  | [] => 0
  | x :: r => uptoBulkEntry x + uptoBulkEntries r
def uptoBulkEntry {H : Type} : Lit × DataW H → Nat
  | (.string bytes, d) => bytes.length + uptoBulk d + 1
  | (_, d) => uptoBulk d + 1
 end
def uptoSmall : (H : Type) → List (DataW H) → Bool := fun _ ds => decide (uptoBulkAll ds ≤ 1048576)
def OpenSpec.upto (s : _root_.Go.ChangeSpec) : _root_.Go.OpenSpec := { _root_.Go.OpenSpec.ofChange s with cond := some uptoSmall }

/-- 'tumblerlaw07.LayPlaces', WHERE WHAT IT READS IS OF BULK AT MOST 1048576: true; the input reads as it did. -/
def layPlacesUptoRow : OpenClaim := { program := "ytjblonbfmdjpcaa", sum := "26440815d52e338f97adff30a1b1808650f0792ac82b60dceb391105d6845a7d", func := "tumbler/tumblerlaw07.LayPlaces", spec := "layPlaces", recurses := true, apart := false, narrowed := true }
def LayPlacesUptoSaid : Prop := layPlacesUptoRow.holds Try.pinned (OpenSpec.upto layPlacesSpec)

/-- 'tumblerlaw07.LayBack', WHERE WHAT IT READS IS OF BULK AT MOST 1048576: true; the input reads as it did. -/
def layBackUptoRow : OpenClaim := { program := "ytjblonbfmdjpcaa", sum := "26440815d52e338f97adff30a1b1808650f0792ac82b60dceb391105d6845a7d", func := "tumbler/tumblerlaw07.LayBack", spec := "layBack", apart := false, narrowed := true }
def LayBackUptoSaid : Prop := layBackUptoRow.holds Try.pinned (OpenSpec.upto layBackSpec)

/-- 'tumblerlaw07.LayWhats', WHERE WHAT IT READS IS OF BULK AT MOST 1048576: true; the input reads as it did. -/
def layWhatsUptoRow : OpenClaim := { program := "ytjblonbfmdjpcaa", sum := "26440815d52e338f97adff30a1b1808650f0792ac82b60dceb391105d6845a7d", func := "tumbler/tumblerlaw07.LayWhats", spec := "layWhats", recurses := true, apart := false, narrowed := true }
def LayWhatsUptoSaid : Prop := layWhatsUptoRow.holds Try.pinned (OpenSpec.upto layWhatsSpec)

/-- 'tumblerlaw07.LayApart', WHERE WHAT IT READS IS OF BULK AT MOST 1048576: true; the input reads as it did. -/
def layApartUptoRow : OpenClaim := { program := "ytjblonbfmdjpcaa", sum := "26440815d52e338f97adff30a1b1808650f0792ac82b60dceb391105d6845a7d", func := "tumbler/tumblerlaw07.LayApart", spec := "layApart", apart := false, narrowed := true }
def LayApartUptoSaid : Prop := layApartUptoRow.holds Try.pinned (OpenSpec.upto layApartSpec)

/-- 'tumblerlaw07.LayBoots', WHERE WHAT IT READS IS OF BULK AT MOST 1048576: true; the input reads as it did. -/
def layBootsUptoRow : OpenClaim := { program := "ytjblonbfmdjpcaa", sum := "26440815d52e338f97adff30a1b1808650f0792ac82b60dceb391105d6845a7d", func := "tumbler/tumblerlaw07.LayBoots", spec := "layBoots", recurses := true, apart := false, narrowed := true }
def LayBootsUptoSaid : Prop := layBootsUptoRow.holds Try.pinned (OpenSpec.upto layBootsSpec)

end Rows
end Go.Proofs.Ytjblonbfmdjpcaa
