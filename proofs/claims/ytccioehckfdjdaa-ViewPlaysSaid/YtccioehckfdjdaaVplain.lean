/- A thread's view: its state, and what each call does, plain. -/
import Derived.Test.YtccioehckfdjdaaWha
import Derived.Test.YtccioehckfdjdaaTape
set_option linter.unusedSimpArgs false
set_option linter.unusedVariables false
namespace Go.Tum.Vw
open Go.Tum.Y
structure V where
  held : Int
  step : Int
  block : Int
  at_ : Int
  val : Int
  s : Int
deriving DecidableEq
def vwL (cells : List Value) (who seq : Int) (v : V) : List Value := cells ++ [.int .i64 who, .int .u64 seq, .int .i64 v.held, .int .i64 v.step, .int .i64 v.block, .int .i64 v.at_, .int .u64 v.val, .int .i64 v.s]
theorem vwL_at {cs : List Value} (hsz : cs.length = 24) (who seq : Int) (v : V) :
    (vwL cs who seq v)[24]? = some (.int .i64 who) ∧ (vwL cs who seq v)[25]? = some (.int .u64 seq) ∧ (vwL cs who seq v)[26]? = some (.int .i64 v.held) ∧ (vwL cs who seq v)[27]? = some (.int .i64 v.step) ∧ (vwL cs who seq v)[28]? = some (.int .i64 v.block) ∧
    (vwL cs who seq v)[29]? = some (.int .i64 v.at_) ∧ (vwL cs who seq v)[30]? = some (.int .u64 v.val) ∧ (vwL cs who seq v)[31]? = some (.int .i64 v.s) := by
  unfold vwL
  refine ⟨?_, ?_, ?_, ?_, ?_, ?_, ?_, ?_⟩ <;> (rw [List.getElem?_append_right (by omega), hsz]; rfl)
theorem vwL_held {cs : List Value} (hsz : cs.length = 24) (who seq : Int) (v : V) (x : Int) : (vwL cs who seq v).set 26 (.int .i64 x) = vwL cs who seq { v with held := x } := by
  unfold vwL
  rw [List.set_append_right _ _ (by omega), hsz]; rfl
theorem vwL_step {cs : List Value} (hsz : cs.length = 24) (who seq : Int) (v : V) (x : Int) : (vwL cs who seq v).set 27 (.int .i64 x) = vwL cs who seq { v with step := x } := by
  unfold vwL
  rw [List.set_append_right _ _ (by omega), hsz]; rfl
theorem vwL_block {cs : List Value} (hsz : cs.length = 24) (who seq : Int) (v : V) (x : Int) : (vwL cs who seq v).set 28 (.int .i64 x) = vwL cs who seq { v with block := x } := by
  unfold vwL
  rw [List.set_append_right _ _ (by omega), hsz]; rfl
theorem vwL_ats {cs : List Value} (hsz : cs.length = 24) (who seq : Int) (v : V) (x : Int) : (vwL cs who seq v).set 29 (.int .i64 x) = vwL cs who seq { v with at_ := x } := by
  unfold vwL
  rw [List.set_append_right _ _ (by omega), hsz]; rfl
theorem vwL_val {cs : List Value} (hsz : cs.length = 24) (who seq : Int) (v : V) (x : Int) : (vwL cs who seq v).set 30 (.int .u64 x) = vwL cs who seq { v with val := x } := by
  unfold vwL
  rw [List.set_append_right _ _ (by omega), hsz]; rfl
theorem vwL_s {cs : List Value} (hsz : cs.length = 24) (who seq : Int) (v : V) (x : Int) : (vwL cs who seq v).set 31 (.int .i64 x) = vwL cs who seq { v with s := x } := by
  unfold vwL
  rw [List.set_append_right _ _ (by omega), hsz]; rfl
def bgn (ok : Bool) (v : V) : V × Bool := if v.s = 2 then (v, false) else ({ v with val := 0, step := 0, s := if ok then 0 else 3 }, ok)
def lives (v : V) : V := if v.at_ = -1 then { v with held := v.block, step := 0, s := 1 } else { v with held := v.block, step := 3 }
def touch (block a : Int) (v : V) : V := if v.held = block then lives { v with block := block, at_ := a, step := 1 } else { v with block := block, at_ := a, step := 1 }
def inner (c : Cfg) (p : Int) : Bool := decide (7 ≤ (whA c p).1 ∧ (whA c p).1 < 16)
def cell (c : Cfg) (p : Int) (v : V) : V := if (bgn (inner c p) v).2 then { (bgn (inner c p) v).1 with at_ := p, step := 3 } else (bgn (inner c p) v).1
def word (c : Cfg) (block x : Int) (v : V) : V := if (bgn (decide (Y.at_ c 16 block x ≠ -1)) v).2 then touch block (Y.at_ c 16 block x) (bgn (decide (Y.at_ c 16 block x ≠ -1)) v).1 else (bgn (decide (Y.at_ c 16 block x ≠ -1)) v).1
def live (c : Cfg) (block : Int) (v : V) : V := if (bgn (decide (Y.at_ c 11 block 0 ≠ -1)) v).2 then touch block (-1) (bgn (decide (Y.at_ c 11 block 0 ≠ -1)) v).1 else (bgn (decide (Y.at_ c 11 block 0 ≠ -1)) v).1
/-- The number that names a block. -/
def nameOf (b : Int) : Int := IntKind.u64.wrap (IntKind.u64.wrap b + 1)
def ask (c : Cfg) (who : Int) (v : V) : P6 × Bool :=
  if v.step = 1 then (⟨1, Y.at_ c 3 who 0, 0, 0, nameOf v.block, 0⟩, true)
  else if v.step = 2 then (⟨0, Y.at_ c 11 v.block 0, 0, 0, 0, 0⟩, true)
  else if v.step = 3 then (⟨0, v.at_, 0, 0, 0, 0⟩, true)
  else (p0, false)
def loaded (seq x n : Int) (v : V) : V :=
  if seq < n then { v with step := 0, s := 2 }
  else if v.step = 3 then { v with step := 0, val := x, s := 1 }
  else if x = 1 then lives { v with step := 0 }
  else { v with step := 0, s := 3 }
def tell (seq x n : Int) (v : V) : V :=
  if v.step = 1 then { v with held := -1, step := 2 }
  else if v.step = 2 ∨ v.step = 3 then loaded seq x n v
  else v
end Go.Tum.Vw
