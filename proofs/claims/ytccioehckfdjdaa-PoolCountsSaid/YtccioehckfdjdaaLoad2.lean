/- A struct of many cells, stored whole into a new block. -/
import Derived.Test.YtccioehckfdjdaaLoad
import Derived.Deep.WholeRow
set_option linter.unusedSimpArgs false
set_option linter.unusedVariables false
namespace Go.Tum
open Go.RowKit

/-- A struct stored whole into the block that was just made. -/
theorem wpList_store_new {P : Program} {ops : Array Oper} {rest : List Oper} {op : Oper} {a : Act} {w : World} {Q : Exit → Act → World → Prop} (ty : TypeId) (c c' : Array Value) (hgd : op.guard = none) (x y : Operand) (ho : op.op = .store ty x y)
    (hx : a.eval x = .pointer (some ⟨w.heap.size, 0, none⟩)) (hy : a.eval y = .agg c') (hi : (P.info? ty).map (·.size) = some c'.size) (hs : c.size = c'.size) (h1 : c'.all (·.oneCell') = true)
    (h : wpList P ops Q rest (a.put op.dst undef) (w.alloc (.cells c' ty))) : wpList P ops Q (op :: rest) a (w.alloc (.cells c ty)) := by
  refine wpList_plain hgd fun K hK => ?_
  unfold Oper.wp execOp
  simp only [ho, hx, hy, Sem.run_bind, Sem.run_pure, Result.andThen_ok, run_storeAt_new w ty c c' hi hs h1]
  exact hK _ _ h
/-- A field, one cell, of a struct by value. -/
theorem run_field_cell {P : Program} (w : World) (T : TypeId) (cs : Array Value) (i : Nat) (fs : Array Field) (f : Field) (d : TypeDesc) (v : Value) (hu : P.underlying T = some (.struct fs)) (hf : fs[i]? = some f) (hu2 : P.underlying f.type = some d) (hd : d.isRow = false) (hv : cs[f.offset]? = some v) :
    (Instr.field T (.agg cs) i).run P w = .ok v w := by
  have hagg : (isAgg f.type).run P w = .ok false w := by
    unfold isAgg
    rw [Sem.run_bind, run_underlying hu2 w]
    cases d <;> simp_all
  simp [Instr.field, Sem.run_bind, run_underlying hu w, hf, asAgg, part, hagg, hv]
end Go.Tum
