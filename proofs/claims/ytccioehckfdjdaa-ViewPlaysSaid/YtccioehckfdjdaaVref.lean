/- The document's readings of chapter 9, plain: Load, load, Cell, Live, Word on a tape. -/
import Derived.Test.YtccioehckfdjdaaVplain
set_option linter.unusedSimpArgs false
set_option linter.unusedVariables false
namespace Go.Tum.Vw
open Go.Tum.Y
/-- The document's view: which block is held, whether it is stale. -/
structure X where
  held : Int
  stale : Bool
deriving DecidableEq
/-- What a reading leaves: the view, the tape, a value, how far it is. -/
structure Rd where
  x : X
  t : Tp
  val : Int
  s : Int
def loadOp (p : Int) : P6 := ⟨0, p, 0, 0, 0, 0⟩
def rload (seq : Int) (l : List O3) (x : X) (t : Tp) (p : Int) : Rd :=
  if (t.step l.length (loadOp p)).need then ⟨x, t.step l.length (loadOp p), 0, 0⟩
  else if seq < (t.out l).s then ⟨{ x with stale := true }, t.step l.length (loadOp p), 0, 2⟩
  else ⟨x, t.step l.length (loadOp p), (t.out l).v, 1⟩
def rcell (c : Cfg) (seq : Int) (l : List O3) (x : X) (t : Tp) (p : Int) : Rd :=
  if x.stale then ⟨x, t, 0, 2⟩ else if p < fTag c ∨ fWord c ≤ p then ⟨x, t, 0, 3⟩ else rload seq l x t p
def rlive (c : Cfg) (who seq : Int) (l : List O3) (x : X) (t : Tp) (b : Int) : Rd :=
  if x.stale then ⟨x, t, 0, 2⟩
  else if b < 0 ∨ c.b ≤ b then ⟨x, t, 0, 3⟩
  else if x.held = b then ⟨x, t, 0, 1⟩
  else if (t.step l.length ⟨1, Y.at_ c 3 who 0, 0, 0, nameOf b, 0⟩).need then ⟨x, t.step l.length ⟨1, Y.at_ c 3 who 0, 0, 0, nameOf b, 0⟩, 0, 0⟩
  else
    let r := rload seq l { x with held := -1 } (t.step l.length ⟨1, Y.at_ c 3 who 0, 0, 0, nameOf b, 0⟩) (Y.at_ c 11 b 0)
    if r.s = 1 ∧ r.val ≠ 1 then ⟨r.x, r.t, 0, 3⟩ else if r.s = 1 then ⟨{ r.x with held := b }, r.t, 0, 1⟩ else ⟨r.x, r.t, 0, r.s⟩
def rword (c : Cfg) (who seq : Int) (l : List O3) (x : X) (t : Tp) (b k : Int) : Rd :=
  if x.stale then ⟨x, t, 0, 2⟩
  else if Y.at_ c 16 b k < 0 then ⟨x, t, 0, 3⟩
  else
    let r := rlive c who seq l x t b
    if r.s ≠ 1 then ⟨r.x, r.t, 0, r.s⟩ else rload seq l r.x r.t (Y.at_ c 16 b k)
end Go.Tum.Vw
