/- Rows of steps, plain; two steps of different cells. -/
import Derived.Test.YtbgmcekbldponaaCplain
import Derived.Test.YtbgmcekbldponaaLeaf
namespace Go.Tum.C
open Go.Tum
abbrev St := Int × Op6
def enSt (s : St) : List Value := [.int .i64 s.1, .int .i64 s.2.k, .int .i64 s.2.a, .int .u64 s.2.ov, .int .u64 s.2.os, .int .u64 s.2.nv, .int .u64 s.2.ns]
/-- Steps, one after the other. -/
def run (m : M) (l : List St) : M := l.foldl (fun m s => m.step s.1 s.2) m
theorem run_nil (m : M) : run m [] = m := rfl
theorem run_app (m : M) (l l' : List St) : run m (l ++ l') = run (run m l) l' := by simp [run]
theorem run_succ (m : M) (l : List St) {k : Nat} (hk : k < l.length) : run m (l.take (k + 1)) = (run m (l.take k)).step l[k].1 l[k].2 := by
  rw [← List.take_append_getElem hk, run_app]; rfl
theorem run_cells (l : List St) : ∀ m, (run m l).cells.length = m.cells.length := by
  induction l with
  | nil => intro m; rfl
  | cons s r ih => intro m; show (run (m.step s.1 s.2) r).cells.length = _; rw [ih, step_cells]
theorem run_trace (l : List St) : ∀ m, (run m l).trace.length ≤ m.trace.length + l.length := by
  induction l with
  | nil => intro m; exact Nat.le_refl _
  | cons s r ih =>
    intro m
    have h1 := ih (m.step s.1 s.2)
    have h2 := step_trace m s.1 s.2
    show (run (m.step s.1 s.2) r).trace.length ≤ _
    rw [List.length_cons]; omega
theorem step_other {m : M} {who : Int} {op : Op6} {a : Int} (h0 : 0 ≤ a) (hne : op.a ≠ a) : (m.step who op).at a.toNat = m.at a.toNat := by
  unfold M.step
  split
  · rename_i he
    obtain ⟨_, _, _, _, a0, _⟩ := err_zero he
    simp only [M.at, List.getD_eq_getElem?_getD]
    rw [List.getElem?_set_ne (by omega)]
  · rfl
/-- Of a step of another cell it is told the same. -/
theorem told_other {m : M} {who who' : Int} {op op' : Op6} (hne : op'.a ≠ op.a) : (m.step who' op').told who op = m.told who op ∧ err (m.step who' op').cells.length who op = err m.cells.length who op := by
  unfold M.told
  rw [step_cells]
  refine ⟨?_, rfl⟩
  split
  · rename_i he
    obtain ⟨_, _, _, _, a0, _⟩ := err_zero he
    rw [step_other a0 hne]
  · rfl
/-- Two steps of different cells, in either order: the same cells, as many steps. -/
theorem steps_comm (m : M) {who who' : Int} {op op' : Op6} (hne : op.a ≠ op'.a) :
    ((m.step who op).step who' op').cells = ((m.step who' op').step who op).cells ∧ ((m.step who op).step who' op').trace.length = ((m.step who' op').step who op).trace.length := by
  have e1 : err (m.step who op).cells.length who' op' = err m.cells.length who' op' := by rw [step_cells]
  have e2 : err (m.step who' op').cells.length who op = err m.cells.length who op := by rw [step_cells]
  by_cases h1 : err m.cells.length who op = 0
  · by_cases h2 : err m.cells.length who' op' = 0
    · obtain ⟨_, _, _, _, a0, _⟩ := err_zero h1
      obtain ⟨_, _, _, _, b0, _⟩ := err_zero h2
      have o1 := step_other (m := m) (who := who) (op := op) b0 hne
      have o2 := step_other (m := m) (who := who') (op := op') a0 (Ne.symm hne)
      generalize hx : m.step who op = x at *
      generalize hy : m.step who' op' = y at *
      unfold M.step
      rw [if_pos (e1.trans h2), if_pos (e2.trans h1), o1, o2, ← hx, ← hy]
      unfold M.step
      rw [if_pos h1, if_pos h2]
      refine ⟨?_, by simp⟩
      dsimp only
      rw [List.set_comm _ _ (by omega)]
    · have s2 : ∀ x : M, x.cells.length = m.cells.length → x.step who' op' = x := fun x hx => by unfold M.step; rw [if_neg (by rw [hx]; exact h2)]
      rw [s2 _ (step_cells _ _ _), s2 m rfl]
      exact ⟨rfl, rfl⟩
  · have s1 : ∀ x : M, x.cells.length = m.cells.length → x.step who op = x := fun x hx => by unfold M.step; rw [if_neg (by rw [hx]; exact h1)]
    rw [s1 m rfl, s1 _ (step_cells _ _ _)]
    exact ⟨rfl, rfl⟩
theorem enSt_of (vs : List Value) (h : LKs [.int .i64, .int .i64, .int .i64, .int .u64, .int .u64, .int .u64, .int .u64] vs) : ∃ s : St, vs = enSt s ∧ True := by
  obtain ⟨_, r0, rfl, ⟨x0, rfl, _⟩, h0⟩ := LKs.cons h
  obtain ⟨_, r1, rfl, ⟨x1, rfl, _⟩, h1⟩ := LKs.cons h0
  obtain ⟨_, r2, rfl, ⟨x2, rfl, _⟩, h2⟩ := LKs.cons h1
  obtain ⟨_, r3, rfl, ⟨x3, rfl, _⟩, h3⟩ := LKs.cons h2
  obtain ⟨_, r4, rfl, ⟨x4, rfl, _⟩, h4⟩ := LKs.cons h3
  obtain ⟨_, r5, rfl, ⟨x5, rfl, _⟩, h5⟩ := LKs.cons h4
  obtain ⟨_, r6, rfl, ⟨x6, rfl, _⟩, h6⟩ := LKs.cons h5
  rw [LKs.none h6]
  exact ⟨(x0, ⟨x1, x2, x3, x4, x5, x6⟩), rfl, trivial⟩

/-! ### steps done again -/
def evSt (e : Ev) : St := (e.who, e.op)
/-- All steps of m, done again over m0, tell the same, and leave m. -/
structure Replay (m0 m : M) : Prop where
  all : run m0 (m.trace.map evSt) = m
  each : ∀ k, (hk : k < m.trace.length) → err (run m0 ((m.trace.take k).map evSt)).cells.length m.trace[k].who m.trace[k].op = 0 ∧ (run m0 ((m.trace.take k).map evSt)).told m.trace[k].who m.trace[k].op = m.trace[k].out
  who : ∀ e ∈ m.trace, 0 ≤ e.who ∧ e.who < 8
theorem replay_new {m0 : M} (h : m0.trace = []) : Replay m0 m0 := ⟨by rw [h]; rfl, fun k hk => by rw [h] at hk; simp at hk, by rw [h]; simp⟩
theorem replay_step {m0 m : M} (h : Replay m0 m) (who : Int) (op : Op6) : Replay m0 (m.step who op) := by
  by_cases he : err m.cells.length who op = 0
  · obtain ⟨w0, w8, _⟩ := err_zero he
    have htr : (m.step who op).trace = m.trace ++ [⟨who, op, outOf (m.at op.a.toNat) op⟩] := by unfold M.step; rw [if_pos he]
    refine ⟨?_, ?_, ?_⟩
    · rw [htr, List.map_append, run_app, h.all]; rfl
    · intro k hk
      have hk' : k < m.trace.length + 1 := by rw [htr] at hk; simpa using hk
      by_cases hkl : k < m.trace.length
      · have e1 : (m.step who op).trace[k] = m.trace[k] := by simp only [htr]; rw [List.getElem_append_left hkl]
        have e2 : (m.step who op).trace.take k = m.trace.take k := by rw [htr, List.take_append_of_le_length (by omega)]
        rw [e1, e2]
        exact h.each k hkl
      · obtain rfl : k = m.trace.length := by omega
        have e1 : (m.step who op).trace[m.trace.length] = ⟨who, op, outOf (m.at op.a.toNat) op⟩ := by simp [htr]
        have e2 : (m.step who op).trace.take m.trace.length = m.trace := by rw [htr, List.take_append_of_le_length (Nat.le_refl _), List.take_length]
        rw [e1, e2, h.all]
        exact ⟨he, by unfold M.told; rw [if_pos he]⟩
    · intro e hm
      rw [htr, List.mem_append, List.mem_singleton] at hm
      rcases hm with h1 | rfl
      · exact h.who e h1
      · exact ⟨w0, w8⟩
  · have e : m.step who op = m := by unfold M.step; rw [if_neg he]
    rw [e]; exact h
theorem replay_run {m0 : M} (l : List St) : ∀ {m : M}, Replay m0 m → Replay m0 (run m l) := by
  induction l with
  | nil => intro m h; exact h
  | cons s r ih => intro m h; exact ih (replay_step h s.1 s.2)
theorem good_run (l : List St) : ∀ {m : M}, Good m → Good (run m l) := by
  induction l with
  | nil => intro m h; exact h
  | cons s r ih => intro m h; exact ih (good_step h s.1 s.2)
/-- How many steps the first so many threads have done. -/
def sumTo (m : M) : Nat → Int
  | 0 => 0
  | j + 1 => sumTo m j + m.cnt j
def sumB (tr : List Ev) : Nat → Nat
  | 0 => 0
  | j + 1 => sumB tr j + countBy tr j
theorem sumB_cons (e : Ev) (r : List Ev) : ∀ j, sumB (e :: r) j = sumB r j + if 0 ≤ e.who ∧ e.who < j then 1 else 0
  | 0 => by simp [sumB]
  | j + 1 => by
    simp only [sumB, sumB_cons e r j, countBy, List.countP_cons]
    by_cases h1 : e.who = j
    · rw [if_neg (by omega), if_pos (by simpa using h1), if_pos (by omega)]; omega
    · rw [if_neg (c := (e.who == (j : Int)) = true) (by simpa using h1)]
      by_cases h2 : 0 ≤ e.who ∧ e.who < j
      · rw [if_pos h2, if_pos (by omega)]; omega
      · rw [if_neg h2, if_neg (by omega)]; omega
theorem sumB_all : ∀ (tr : List Ev), (∀ e ∈ tr, 0 ≤ e.who ∧ e.who < 8) → sumB tr 8 = tr.length
  | [], _ => rfl
  | e :: r, h => by
    rw [sumB_cons, sumB_all r (fun x hx => h x (List.mem_cons_of_mem _ hx)), if_pos (show 0 ≤ e.who ∧ e.who < ((8 : Nat) : Int) from h e (List.mem_cons_self ..))]; rfl
theorem sumTo_B {m : M} (h : Good m) : ∀ j, j ≤ 8 → sumTo m j = sumB m.trace j
  | 0, _ => rfl
  | j + 1, hj => by
    simp only [sumTo, sumB]
    rw [sumTo_B h j (by omega), h.count j (by omega)]; omega
theorem sumTo_all {m0 m : M} (h : Good m) (hr : Replay m0 m) : sumTo m 8 = m.trace.length := by
  rw [sumTo_B h 8 (by omega), sumB_all _ hr.who]
end Go.Tum.C
