/- Whether two steps, two cells, two replies are the same: what == gives. -/
import Derived.Test.YtccioehckfdjdaaTape
set_option linter.unusedSimpArgs false
set_option linter.unusedVariables false
namespace Go.Proofs.Ytccioehckfdjdaa
open Go.RowKit Go.Tum
set_option maxHeartbeats 2000000 in
theorem eql_op (w : World) (x y : P6) : (binOp .eql 43 (.agg (enP x).toArray) (.agg (enP y).toArray)).run Try.prog w = .ok (.bool (decide (x = y))) w := by
  obtain ⟨a1, a2, a3, a4, a5, a6⟩ := x
  obtain ⟨b1, b2, b3, b4, b5, b6⟩ := y
  have h1 := Try.underlying43
  have h2 := Try.underlying41
  have h3 := Try.underlying3
  have h4 := Try.underlying22
  have h5 := Try.underlying4
  have h3o := Try.underlying55
  have p1 : Try.prog.stoodInHeld 43 = false := by kernel_rfl
  have p2 : Try.prog.stoodInHeld 41 = false := by kernel_rfl
  have p3o : Try.prog.stoodInHeld 55 = false := by kernel_rfl
  simp only [enP, run_eql_struct, run_neq_struct]
  rw [run_equalIn_struct w 9999 43 _ _ (by unfold Program.fieldsOf; rw [h1]) p1]
  simp [Program.fieldsOf, h1, h2, h3, h4, h5, h3o, p1, p2, p3o, Op.eqFields, go_sem]
  repeat (first | rfl | (split <;> simp_all))
set_option maxHeartbeats 2000000 in
theorem neq_op (w : World) (x y : P6) : (binOp .neq 43 (.agg (enP x).toArray) (.agg (enP y).toArray)).run Try.prog w = .ok (.bool (!decide (x = y))) w := by
  obtain ⟨a1, a2, a3, a4, a5, a6⟩ := x
  obtain ⟨b1, b2, b3, b4, b5, b6⟩ := y
  have h1 := Try.underlying43
  have h2 := Try.underlying41
  have h3 := Try.underlying3
  have h4 := Try.underlying22
  have h5 := Try.underlying4
  have h3o := Try.underlying55
  have p1 : Try.prog.stoodInHeld 43 = false := by kernel_rfl
  have p2 : Try.prog.stoodInHeld 41 = false := by kernel_rfl
  have p3o : Try.prog.stoodInHeld 55 = false := by kernel_rfl
  simp only [enP, run_eql_struct, run_neq_struct]
  rw [run_equalIn_struct w 9999 43 _ _ (by unfold Program.fieldsOf; rw [h1]) p1]
  simp [Program.fieldsOf, h1, h2, h3, h4, h5, h3o, p1, p2, p3o, Op.eqFields, go_sem]
  repeat (first | rfl | (split <;> simp_all))
theorem neq_op_self (w : World) (x : P6) : (binOp .neq 43 (.agg (enP x).toArray) (.agg (enP x).toArray)).run Try.prog w = .ok (.bool false) w := by rw [neq_op, decide_eq_true rfl]; rfl
set_option maxHeartbeats 2000000 in
theorem eql_cell_self (w : World) (a b : Int) : (binOp .eql 41 (.agg #[.int .u64 a, .int .u64 b]) (.agg #[.int .u64 a, .int .u64 b])).run Try.prog w = .ok (.bool true) w := by
  have h2 := Try.underlying41
  have h4 := Try.underlying22
  have p2 : Try.prog.stoodInHeld 41 = false := by kernel_rfl
  simp only [run_eql_struct]
  rw [run_equalIn_struct w 9999 41 _ _ (by unfold Program.fieldsOf; rw [h2]) p2]
  simp [Program.fieldsOf, h2, h4, p2, Op.eqFields, go_sem]
end Go.Proofs.Ytccioehckfdjdaa
