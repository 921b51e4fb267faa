/- A shared memory, and what a step does to it: plain. -/
import Derived.Test.YtccioehckfdjdaaSep
namespace Go.Tum.C
open Go.Tum

structure Op6 where
  k : Int
  a : Int
  ov : Int
  os : Int
  nv : Int
  ns : Int
deriving DecidableEq
structure Out3 where
  v : Int
  s : Int
  ok : Bool
deriving DecidableEq
structure Ev where
  who : Int
  op : Op6
  out : Out3
deriving DecidableEq
/-- A memory: the cells, how many steps each thread has done, all steps. -/
structure M where
  cells : List (Int × Int)
  steps : List Int
  trace : List Ev

def enC (c : Int × Int) : List Value := [.int .u64 c.1, .int .u64 c.2]
def enOp (o : Op6) : List Value := [.int .i64 o.k, .int .i64 o.a, .int .u64 o.ov, .int .u64 o.os, .int .u64 o.nv, .int .u64 o.ns]
def enOut (o : Out3) : List Value := [.int .u64 o.v, .int .u64 o.s, .bool o.ok]
def enEv (e : Ev) : List Value := [.int .i64 e.who, .int .i64 e.op.k, .int .i64 e.op.a, .int .u64 e.op.ov, .int .u64 e.op.os, .int .u64 e.op.nv, .int .u64 e.op.ns, .int .u64 e.out.v, .int .u64 e.out.s, .bool e.out.ok]
theorem enC_len (c : Int × Int) : (enC c).length = 2 := rfl
theorem enEv_len (e : Ev) : (enEv e).length = 10 := rfl
theorem enC_one (c : Int × Int) : ∀ u ∈ enC c, u.oneCell' = true := by simp [enC, Value.oneCell']
theorem enEv_one (e : Ev) : ∀ u ∈ enEv e, u.oneCell' = true := by simp [enEv, Value.oneCell']

def M.at (m : M) (i : Nat) : Int × Int := m.cells.getD i (0, 0)
/-- How many steps a thread has done. -/
def M.cnt (m : M) (i : Nat) : Int := m.steps.getD i 0
def err (n : Nat) (who : Int) (op : Op6) : Int :=
  if who < 0 ∨ 8 ≤ who then 1 else if op.k < 0 ∨ 3 < op.k then 32 else if op.a < 0 ∨ (n : Int) ≤ op.a then 31 else 0
def becomes (c : Int × Int) (op : Op6) : Int × Int :=
  if op.k = 1 ∨ (op.k = 2 ∧ c = (op.ov, op.os)) then (op.nv, op.ns)
  else if op.k = 3 then (IntKind.u64.wrap (c.1 + op.nv), c.2) else c
def outOf (c : Int × Int) (op : Op6) : Out3 := ⟨c.1, c.2, decide (op.k ≠ 2 ∨ c = (op.ov, op.os))⟩
/-- A step. -/
def M.step (m : M) (who : Int) (op : Op6) : M :=
  if err m.cells.length who op = 0 then
    ⟨m.cells.set op.a.toNat (becomes (m.at op.a.toNat) op), m.steps.set who.toNat (m.cnt who.toNat + 1), m.trace ++ [⟨who, op, outOf (m.at op.a.toNat) op⟩]⟩
  else m
def M.told (m : M) (who : Int) (op : Op6) : Out3 :=
  if err m.cells.length who op = 0 then outOf (m.at op.a.toNat) op else ⟨0, 0, false⟩
theorem err_zero {n : Nat} {who : Int} {op : Op6} (h : err n who op = 0) : 0 ≤ who ∧ who < 8 ∧ 0 ≤ op.k ∧ op.k ≤ 3 ∧ 0 ≤ op.a ∧ op.a < n := by
  unfold err at h
  split at h
  · omega
  · split at h
    · omega
    · split at h
      · omega
      · omega
theorem step_cells (m : M) (who : Int) (op : Op6) : (m.step who op).cells.length = m.cells.length := by
  unfold M.step; split <;> simp
theorem step_steps (m : M) (who : Int) (op : Op6) : (m.step who op).steps.length = m.steps.length := by
  unfold M.step; split <;> simp
theorem step_trace (m : M) (who : Int) (op : Op6) : (m.step who op).trace.length ≤ m.trace.length + 1 := by
  unfold M.step; split <;> simp

/-- How many steps a thread has done. -/
def countBy (l : List Ev) (i : Int) : Nat := l.countP fun e => e.who == i
/-- Steps are counted. -/
structure Good (m : M) : Prop where
  s8 : m.steps.length = 8
  count : ∀ i : Nat, i < 8 → m.cnt i = countBy m.trace i
theorem good_step {m : M} (h : Good m) (who : Int) (op : Op6) : Good (m.step who op) := by
  unfold M.step
  split
  · rename_i he
    obtain ⟨w0, w8, _⟩ := err_zero he
    refine ⟨by simp [h.s8], fun i hi => ?_⟩
    have h1 := h.count i hi
    have h8 := h.s8
    simp only [countBy, List.countP_append, List.countP_singleton] at *
    by_cases e : who = i
    · subst e
      simp only [M.cnt, List.getD_eq_getElem?_getD, Int.toNat_natCast] at *
      rw [List.getElem?_set_self (by omega)]
      simp [h1]
    · have e2 : ¬ who.toNat = i := by omega
      simp only [M.cnt, List.getD_eq_getElem?_getD] at *
      rw [List.getElem?_set_ne e2, h1]
      simp [e]
  · exact h
theorem good_new (n : Nat) : Good ⟨List.replicate n (0, 0), List.replicate 8 0, []⟩ :=
  ⟨rfl, fun i hi => by
    simp only [M.cnt, countBy, List.getD_eq_getElem?_getD, List.countP_nil]
    rw [List.getElem?_replicate_of_lt hi]; rfl⟩
theorem Good.bound {m : M} (h : Good m) {i : Nat} (hi : i < 8) : 0 ≤ m.cnt i ∧ m.cnt i ≤ m.trace.length := by
  rw [h.count i hi]
  have : countBy m.trace i ≤ m.trace.length := List.countP_le_length
  omega
end Go.Tum.C
