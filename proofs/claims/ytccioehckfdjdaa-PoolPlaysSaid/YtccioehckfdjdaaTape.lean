/- The document's tape of replies: Do, Store. -/
import Derived.Test.YtccioehckfdjdaaChecked
import Derived.Test.YtccioehckfdjdaaMLoad
import Derived.Test.YtccioehckfdjdaaMBase
set_option linter.unusedSimpArgs false
set_option linter.unusedVariables false
namespace Go.Tum
theorem Blk.thereO {w : World} {k : Nat} {T : TypeId} {cs : List Value} (h : Blk w k T cs) (o n : Nat) (hn : o + n ≤ cs.length) : w.there k o n := fun j hj => by
  refine ⟨?_, h.froz _⟩
  rw [h.cell]; simp; omega
theorem Sep.setPart {w0 w : World} {Ts : List Thing} (h : Sep w0 w Ts) (i : Nat) {k : Nat} {T : TypeId} {cs : List Value} (hi : Ts[i]? = some (blkT k T cs)) (o : Nat) (vs : List Value) :
    Sep w0 (w.setCells k o vs) (Ts.set i (blkT k T (setL cs o vs))) := by
  obtain ⟨fp, hp, _, hk⟩ := h.get i hi
  exact hk _ _ [k] ⟨rfl, hp.2.setCells vs o⟩ (Fr.setCells (by simp [hp.1]) vs o (Fr.refl fp w)) (fun q hq => .inl (by rw [hp.1]; exact hq))
theorem wpList_store_sep {P : Program} {ops : Array Oper} {rest : List Oper} {op : Oper} {a : Act} {w w0 : World} {Q : Exit → Act → World → Prop} {Ts : List Thing} (h : Sep w0 w Ts) (i : Nat) {b : Nat} {T : TypeId} {cs : List Value} (hi : Ts[i]? = some (blkT b T cs)) (vs : List Value) (ty : TypeId) (x y : Operand) (ho : op.op = .store ty x y) (hgd : op.guard = none)
    (hx : a.eval x = .pointer (some ⟨b, 0, none⟩)) (hy : a.eval y = .agg vs.toArray) (hl : vs.length = cs.length) (hi2 : (P.info? ty).map (·.size) = some vs.length) (h1 : ∀ v ∈ vs, v.oneCell' = true)
    (hk : ∀ w', Sep w0 w' (Ts.set i (blkT b T vs)) → Fr [b] w w' → wpList P ops Q rest (a.put op.dst undef) w') : wpList P ops Q (op :: rest) a w := by
  refine wpList_store_mid hgd ty x y ho b 0 vs.toArray hx hy ((h.blk i hi).there _ (by simpa using hl)) (by simpa using hi2) (all_oneCell_toArray h1) (hk _ ?_ ?_)
  · simpa using h.setAll i hi vs hl
  · exact Fr.setCells (by simp) _ 0 (Fr.refl _ _)
theorem wpList_store_part {P : Program} {ops : Array Oper} {rest : List Oper} {op : Oper} {a : Act} {w w0 : World} {Q : Exit → Act → World → Prop} {Ts : List Thing} (h : Sep w0 w Ts) (i : Nat) {b : Nat} {T : TypeId} {cs : List Value} (hi : Ts[i]? = some (blkT b T cs)) (o : Nat) (vs : List Value) (ty : TypeId) (x y : Operand) (ho : op.op = .store ty x y) (hgd : op.guard = none)
    (hx : a.eval x = .pointer (some ⟨b, o, none⟩)) (hy : a.eval y = .agg vs.toArray) (hl : o + vs.length ≤ cs.length) (hi2 : (P.info? ty).map (·.size) = some vs.length) (h1 : ∀ v ∈ vs, v.oneCell' = true)
    (hk : ∀ w', Sep w0 w' (Ts.set i (blkT b T (setL cs o vs))) → Fr [b] w w' → wpList P ops Q rest (a.put op.dst undef) w') : wpList P ops Q (op :: rest) a w := by
  refine wpList_store_mid hgd ty x y ho b o vs.toArray hx hy ((h.blk i hi).thereO o _ (by simpa using hl)) (by simpa using hi2) (all_oneCell_toArray h1) (hk _ ?_ ?_)
  · simpa using h.setPart i hi o vs
  · exact Fr.setCells (by simp) _ o (Fr.refl _ _)
theorem wpList_gen_sep {P : Program} {ops : Array Oper} {l : List Oper} {a : Act} {w w0 : World} {Q : Exit → Act → World → Prop} {Ts : List Thing} (h : Sep w0 w Ts) (hk : ∀ w', Sep w0 w' Ts → wpList P ops Q l a w') : wpList P ops Q l a w := hk w h
theorem res_cell_cell {P : Program} {fn : Func} {tmps : Array Value} {w : World} {a t j u b b' : Nat} {cs cs' : List Value} {d d' : TypeDesc} (hr : fn.results = #[.cell a t, .cell j u]) (ha : tmps.getD a undef = .pointer (some ⟨b, 0, none⟩)) (hj : tmps.getD j undef = .pointer (some ⟨b', 0, none⟩))
    (hc : w.rangeAt b 0 cs) (hu : P.underlying t = some d) (hd : d.isRow = true) (hi : (P.info? t).map (·.size) = some cs.length)
    (hc' : w.rangeAt b' 0 cs') (hu' : P.underlying u = some d') (hd' : d'.isRow = true) (hi' : (P.info? u).map (·.size) = some cs'.length) : (results fn tmps).run P w = .ok (.tuple #[.agg cs.toArray, .agg cs'.toArray]) w := by
  have h1 := run_loadVar_mid (P := P) w b 0 t cs d hc hu hd hi
  have h2 := run_loadVar_mid (P := P) w b' 0 u cs' d' hc' hu' hd' hi'
  rw [Array.getD_eq_getD_getElem?] at ha hj
  simp [results, hr, ha, hj, asAddr, Sem.run_bind, h1, h2]
structure O3 where
  v : Int
  s : Int
  ok : Bool
deriving DecidableEq
def enO (o : O3) : List Value := [.int .u64 o.v, .int .u64 o.s, .bool o.ok]
theorem enO_len (o : O3) : (enO o).length = 3 := rfl
structure P6 where
  k : Int
  a : Int
  ov : Int
  os : Int
  nv : Int
  ns : Int
deriving DecidableEq
def enP (o : P6) : List Value := [.int .i64 o.k, .int .i64 o.a, .int .u64 o.ov, .int .u64 o.os, .int .u64 o.nv, .int .u64 o.ns]
def p0 : P6 := ⟨0, 0, 0, 0, 0, 0⟩
theorem enP_one (o : P6) : ∀ v ∈ enP o, v.oneCell' = true := by simp [enP, Value.oneCell']
theorem enO_one (o : O3) : ∀ v ∈ enO o, v.oneCell' = true := by simp [enO, Value.oneCell']
/-- A tape: how many replies were used, the step that is asked for, is one asked for? -/
structure Tp where
  at_ : Nat
  ask : P6
  need : Bool
def tapeL (v : Value) (t : Tp) : List Value := [v, .int .i64 t.at_, .int .i64 t.ask.k, .int .i64 t.ask.a, .int .u64 t.ask.ov, .int .u64 t.ask.os, .int .u64 t.ask.nv, .int .u64 t.ask.ns, .bool t.need]
theorem tapeL_one (oa : Option Addr) (n oc : Nat) (t : Tp) : ∀ v ∈ tapeL (.slice oa n oc) t, v.oneCell' = true := by simp [tapeL, Value.oneCell']
/-- A step on a tape of n replies. -/
def Tp.step (n : Nat) (t : Tp) (op : P6) : Tp := if t.need then t else if n ≤ t.at_ then { t with ask := op, need := true } else { t with at_ := t.at_ + 1 }
def Tp.out (l : List O3) (t : Tp) : O3 := if t.need then ⟨0, 0, false⟩ else (l[t.at_]?).getD ⟨0, 0, false⟩
end Go.Tum
namespace Go.Proofs.Ytccioehckfdjdaa
open Go.RowKit Go.Tum
theorem out_zero : ∀ v ∈ [Value.int .u64 0, .int .u64 0, .bool false], v.oneCell' = true := by simp [Value.oneCell']
set_option maxRecDepth 100000 in
set_option maxHeartbeats 4000000 in
theorem do_need (w : World) (oa : Option Addr) (n oc : Nat) (tat : Nat) (ask op : P6) (hn : n ≤ 100000) :
    Calls Try.prog 120 #[.agg (tapeL (.slice oa n oc) ⟨tat, ask, true⟩).toArray, .agg (enP op).toArray] w fun e w' => e = .returned (.tuple #[.agg (tapeL (.slice oa n oc) ⟨tat, ask, true⟩).toArray, .agg [.int .u64 0, .int .u64 0, .bool false].toArray]) ∧ Fr [] w w' := by
  have g0 : (tapeL (.slice oa n oc) ⟨tat, ask, true⟩)[0]? = some (.slice oa n oc) := rfl
  have g1 : (tapeL (.slice oa n oc) ⟨tat, ask, true⟩)[1]? = some (.int .i64 tat) := rfl
  have g8 : (tapeL (.slice oa n oc) ⟨tat, ask, true⟩)[8]? = some (.bool true) := rfl
  have hone := tapeL_one oa n oc ⟨tat, ask, true⟩
  have honeP := enP_one op
  have honeO := out_zero
  have hni : (n : Int) ≤ 100000 := by omega
  have hS := ((((Sep.nil (Fr.refl [] w)).new 47 (tapeL (.slice oa n oc) ⟨tat, ask, true⟩)).new 43 (enP op)).new 47 [.slice none 0 0, .int .i64 0, .int .i64 0, .int .i64 0, .int .u64 0, .int .u64 0, .int .u64 0, .int .u64 0, .bool false]).new 55 [.int .u64 0, .int .u64 0, .bool false]
  simp only [World.size_alloc] at hS
  have HS := Lib.hid hS
  clear hS
  go_enter Try.func120, Try.ntmps120
  have hone2 := hone
  go_wp2_with (first | (refine wpList_load_any 47 _ rfl rfl _ 0 rfl (tapeL (.slice oa n oc) ⟨tat, ask, true⟩) _ (HS.out.blk 3 rfl).range Try.underlying47 rfl (by kernel_rfl) ?_) | (refine wpList_store_sep HS.out 1 rfl (tapeL (.slice oa n oc) ⟨tat, ask, true⟩) 47 _ _ rfl rfl rfl rfl rfl (by kernel_rfl) hone2 (fun wA hA _ => ?_); have HA := Lib.hid hA; clear hA) | (refine wpList_store_sep HA.out 0 rfl [.int .u64 0, .int .u64 0, .bool false] 55 _ _ rfl rfl rfl rfl rfl (by kernel_rfl) honeO (fun wB hB _ => ?_); have HS := Lib.hid hB; clear hB))
  exact bodyPost_ret (v := .tuple #[.agg (tapeL (.slice oa n oc) ⟨tat, ask, true⟩).toArray, .agg ([.int .u64 0, .int .u64 0, .bool false]).toArray]) (res_cell_cell Try.results120 rfl rfl (HS.out.blk 1 rfl).range Try.underlying47 rfl (by kernel_rfl) (HS.out.blk 0 rfl).range Try.underlying55 rfl (by kernel_rfl)) rfl ⟨rfl, HS.out.fr⟩
set_option maxRecDepth 100000 in
set_option maxHeartbeats 4000000 in
theorem do_ask (w : World) (oa : Option Addr) (n oc : Nat) (tat : Nat) (ask op : P6) (hn : n ≤ 100000) (ht : n ≤ tat) (htn : tat ≤ 200000) :
    Calls Try.prog 120 #[.agg (tapeL (.slice oa n oc) ⟨tat, ask, false⟩).toArray, .agg (enP op).toArray] w fun e w' => e = .returned (.tuple #[.agg (tapeL (.slice oa n oc) ⟨tat, op, true⟩).toArray, .agg [.int .u64 0, .int .u64 0, .bool false].toArray]) ∧ Fr [] w w' := by
  have g0 : (tapeL (.slice oa n oc) ⟨tat, ask, false⟩)[0]? = some (.slice oa n oc) := rfl
  have g1 : (tapeL (.slice oa n oc) ⟨tat, ask, false⟩)[1]? = some (.int .i64 tat) := rfl
  have g8 : (tapeL (.slice oa n oc) ⟨tat, ask, false⟩)[8]? = some (.bool false) := rfl
  have hone := tapeL_one oa n oc ⟨tat, ask, false⟩
  have honeP := enP_one op
  have honeO := out_zero
  have hni : (n : Int) ≤ 100000 := by omega
  have hS := ((((Sep.nil (Fr.refl [] w)).new 47 (tapeL (.slice oa n oc) ⟨tat, ask, false⟩)).new 43 (enP op)).new 47 [.slice none 0 0, .int .i64 0, .int .i64 0, .int .i64 0, .int .u64 0, .int .u64 0, .int .u64 0, .int .u64 0, .bool false]).new 55 [.int .u64 0, .int .u64 0, .bool false]
  simp only [World.size_alloc] at hS
  have HS := Lib.hid hS
  clear hS
  have HW := HS
  clear HS g0 g1 g8
  have d0 : decide ((tat : Int) ≥ (n : Int)) = true := by simp; omega
  have d0' : decide (tat ≥ n) = true := by simp; omega
  have d0'' : decide (n ≤ tat) = true := by simp; omega
  have hone2 := tapeL_one oa n oc ⟨tat, op, true⟩
  go_enter Try.func120, Try.ntmps120
  go_wp2_with (first | (refine wpList_gen_sep HW.out (fun wI hI => ?_); have a0 := (hI.blk 3 rfl).cell 0; have a1 := (hI.blk 3 rfl).cell 1; have a8 := (hI.blk 3 rfl).cell 8; have f1 := (hI.blk 3 rfl).froz 1; have f8 := (hI.blk 3 rfl).froz 8; have l0 := (hI.blk 3 rfl).lt; simp only [tapeL, List.getElem?_cons_zero, List.getElem?_cons_succ] at a0 a1 a8; have HI := Lib.hid hI; clear hI) | (refine wpList_load_any 43 _ rfl rfl _ 0 rfl (enP op) _ (HI.out.blk 2 rfl).range Try.underlying43 rfl (by kernel_rfl) ?_) | (refine wpList_store_part HI.out 3 rfl 2 (enP op) 43 _ _ rfl rfl rfl rfl (by simp [enP, tapeL]) (by kernel_rfl) honeP (fun wJ hJ _ => ?_); have hJ2 : Sep w wJ [blkT _ _ _, blkT _ _ _, blkT _ _ _, blkT _ _ (tapeL (.slice oa n oc) ⟨tat, op, false⟩)] := hJ; have b8 := (hJ2.blk 3 rfl).cell 8; have f8 := (hJ2.blk 3 rfl).froz 8; have l0 := (hJ2.blk 3 rfl).lt; simp only [tapeL, List.getElem?_cons_zero, List.getElem?_cons_succ] at b8; have HS : Hid (Sep w _ [blkT _ _ _, blkT _ _ _, blkT _ _ _, blkT _ _ (tapeL (.slice oa n oc) ⟨tat, op, true⟩)]) := Lib.hid (hJ2.set 3 rfl 8 (.bool true)); clear hJ hJ2) | (refine wpList_load_any 47 _ rfl rfl _ 0 rfl (tapeL (.slice oa n oc) ⟨tat, op, true⟩) _ (HS.out.blk 3 rfl).range Try.underlying47 rfl (by kernel_rfl) ?_) | (refine wpList_store_sep HS.out 1 rfl (tapeL (.slice oa n oc) ⟨tat, op, true⟩) 47 _ _ rfl rfl rfl rfl rfl (by kernel_rfl) hone2 (fun wA hA _ => ?_); have HA := Lib.hid hA; clear hA) | (refine wpList_store_sep HA.out 0 rfl [.int .u64 0, .int .u64 0, .bool false] 55 _ _ rfl rfl rfl rfl rfl (by kernel_rfl) honeO (fun wB hB _ => ?_); have HS := Lib.hid hB; clear hB))
  exact bodyPost_ret (v := .tuple #[.agg (tapeL (.slice oa n oc) ⟨tat, op, true⟩).toArray, .agg ([.int .u64 0, .int .u64 0, .bool false]).toArray]) (res_cell_cell Try.results120 rfl rfl (HS.out.blk 1 rfl).range Try.underlying47 rfl (by kernel_rfl) (HS.out.blk 0 rfl).range Try.underlying55 rfl (by kernel_rfl)) rfl ⟨rfl, HS.out.fr⟩
set_option maxRecDepth 100000 in
set_option maxHeartbeats 4000000 in
theorem do_next (w : World) (oa : Option Addr) (n oc : Nat) (tat : Nat) (ask op : P6) (hn : n ≤ 100000) (ht : tat < n) (l : List O3) (hl : l.length = n) (hO : ArgE enO 3 w (.slice oa n oc) l) :
    Calls Try.prog 120 #[.agg (tapeL (.slice oa n oc) ⟨tat, ask, false⟩).toArray, .agg (enP op).toArray] w fun e w' => e = .returned (.tuple #[.agg (tapeL (.slice oa n oc) ⟨tat + 1, ask, false⟩).toArray, .agg (enO (l[tat]'(by omega))).toArray]) ∧ Fr [] w w' := by
  obtain ⟨x, rfl, hxw, hc0, hc1⟩ := hO.at (i := tat) (by omega)
  have HX := Lib.hid (fun w' (f : Fr [] w w') => And.intro (f.cell (hc0 _ rfl) (by simp)) (And.intro (f.cell (hc1 0 _ rfl) (by simp)) (f.cell (hc1 1 _ rfl) (by simp))))
  clear hc0 hc1 hO
  generalize l[tat]'(by omega) = o at *
  obtain ⟨ov, os, ook⟩ := o
  dsimp only at HX
  generalize hoa : some x = oa at *
  have g0 : (tapeL (.slice oa n oc) ⟨tat, ask, false⟩)[0]? = some (.slice oa n oc) := rfl
  have g1 : (tapeL (.slice oa n oc) ⟨tat, ask, false⟩)[1]? = some (.int .i64 tat) := rfl
  have g8 : (tapeL (.slice oa n oc) ⟨tat, ask, false⟩)[8]? = some (.bool false) := rfl
  have hone := tapeL_one oa n oc ⟨tat, ask, false⟩
  have honeP := enP_one op
  have honeO := out_zero
  have hni : (n : Int) ≤ 100000 := by omega
  have hS := ((((Sep.nil (Fr.refl [] w)).new 47 (tapeL (.slice oa n oc) ⟨tat, ask, false⟩)).new 43 (enP op)).new 47 [.slice none 0 0, .int .i64 0, .int .i64 0, .int .i64 0, .int .u64 0, .int .u64 0, .int .u64 0, .int .u64 0, .bool false]).new 55 [.int .u64 0, .int .u64 0, .bool false]
  simp only [World.size_alloc] at hS
  have HS := Lib.hid hS
  clear hS
  have HW := HS
  clear HS g0 g1 g8
  have hti : (tat : Int) < (n : Int) := by omega
  have d0 : decide ((tat : Int) ≥ (n : Int)) = false := by simp; omega
  have d0' : decide (tat ≥ n) = false := by simp; omega
  have d0'' : decide (n ≤ tat) = false := by simp; omega
  have hone2 := tapeL_one oa n oc ⟨tat + 1, ask, false⟩
  go_enter Try.func120, Try.ntmps120
  go_wp2_with (first | (refine wpList_gen_sep HW.out (fun wI hI => ?_); have a0 := (hI.blk 3 rfl).cell 0; have a1 := (hI.blk 3 rfl).cell 1; have a8 := (hI.blk 3 rfl).cell 8; have f1 := (hI.blk 3 rfl).froz 1; have f8 := (hI.blk 3 rfl).froz 8; have l0 := (hI.blk 3 rfl).lt; simp only [tapeL, List.getElem?_cons_zero, List.getElem?_cons_succ] at a0 a1 a8; have HI := Lib.hid hI; clear hI))
  have HS : Hid (Sep w (wI.setCell ⟨w.heap.size, 1, none⟩ (.int .i64 (tat + 1))) [blkT (w.heap.size + 1 + 1 + 1) 55 [.int .u64 0, .int .u64 0, .bool false], blkT (w.heap.size + 1 + 1) 47 [.slice none 0 0, .int .i64 0, .int .i64 0, .int .i64 0, .int .u64 0, .int .u64 0, .int .u64 0, .int .u64 0, .bool false], blkT (w.heap.size + 1) 43 (enP op), blkT w.heap.size 47 (tapeL (.slice oa n oc) ⟨tat + 1, ask, false⟩)]) := Lib.hid (HI.out.set 3 rfl 1 (.int .i64 (tat + 1)))
  generalize wI.setCell ⟨w.heap.size, 1, none⟩ (.int .i64 (tat + 1)) = wJ at *
  clear a0 a1 a8 f1 f8 l0 HI
  have a0 := (HS.out.blk 3 rfl).cell 0
  have a1 : wJ.cell? ⟨w.heap.size, 1, none⟩ = some (.int .i64 ((tat : Int) + 1)) := (HS.out.blk 3 rfl).cell 1
  have hmd := (HS.out.blk 3 rfl).drew
  simp only [tapeL, List.getElem?_cons_zero, List.getElem?_cons_succ] at a0
  subst hoa
  obtain ⟨y0, y1, y2⟩ := HX.out _ HS.out.fr
  simp only [Nat.zero_add, Nat.reduceAdd] at y1 y2
  have hne1 : ¬ w.heap.size = w.heap.size + 1 + 1 := by omega
  have hne2 : ¬ (x.add (tat * 3)).block = w.heap.size + 1 + 1 := by
    have : (x.add (tat * 3)).block = x.block := by unfold Addr.add; split <;> rfl
    omega
  refine wp_region_fr [(1, [0, 1, 2, 3, 4, 5, 6, 7]), (2, [8]), (3, [9])] [w.heap.size + 1 + 1] (by kernel_rfl) (by kernel_rfl) ?_
  simp only [theOps, nthOp, List.map_cons, List.map_nil, Array.getD_eq_getD_getElem?, List.getElem?_toArray, List.getElem?_cons_succ, List.getElem?_cons_zero, Option.getD_some]
  refine wpSegs_soft ?_
  refine wpQuiet_load_mid 47 _ w.heap.size 0 (tapeL (.slice (some x) n oc) ⟨tat + 1, ask, false⟩) _ rfl rfl rfl (rangeAt_after hmd (by simpa using hne1)) Try.underlying47 rfl (by kernel_rfl) ?_
  simp only [Act.put, List.setIfInBounds_toArray, List.set_cons_zero, List.set_cons_succ]
  repeat (first | go_big_quiet_step (fail) | quiet_step (fail))
  refine wpQuiet_nil ?_
  refine wpSegs_keep ?_
  refine wpList_store_sep HS.out.drew 1 rfl (tapeL (.slice (some x) n oc) ⟨tat + 1, ask, false⟩) 47 _ _ rfl rfl rfl rfl rfl (by kernel_rfl) hone2 (fun wA hA fA => ?_)
  have HA := Lib.hid hA; have HF := Lib.hid fA
  clear hA fA
  go_wp2_with fail
  refine ⟨⟨⟨_, (by exact HF.out)⟩, rfl⟩, ?_⟩
  refine wpSegs_hard ?_
  have honeX : ∀ v ∈ enO ⟨ov, os, ook⟩, v.oneCell' = true := enO_one _
  refine wpList_store_sep HA.out 0 rfl (enO ⟨ov, os, ook⟩) 55 _ _ rfl rfl rfl rfl rfl (by kernel_rfl) honeX (fun wB hB _ => ?_)
  have HS := Lib.hid hB; clear hB
  go_wp2_with fail
  refine wpSegs_done ?_
  go_wp2_with fail
  exact bodyPost_ret (v := .tuple #[.agg (tapeL (.slice (some x) n oc) ⟨tat + 1, ask, false⟩).toArray, .agg (enO ⟨ov, os, ook⟩).toArray]) (res_cell_cell Try.results120 rfl rfl (HS.out.blk 1 rfl).range Try.underlying47 rfl (by kernel_rfl) (HS.out.blk 0 rfl).range Try.underlying55 rfl (by kernel_rfl)) rfl ⟨rfl, HS.out.fr⟩
theorem do_any (w : World) (oa : Option Addr) (n oc : Nat) (t : Tp) (op : P6) (hn : n ≤ 100000) (ht : t.at_ ≤ 200000) (l : List O3) (hl : l.length = n) (hO : ArgE enO 3 w (.slice oa n oc) l) :
    Calls Try.prog 120 #[.agg (tapeL (.slice oa n oc) t).toArray, .agg (enP op).toArray] w fun e w' => e = .returned (.tuple #[.agg (tapeL (.slice oa n oc) (t.step n op)).toArray, .agg (enO (t.out l)).toArray]) ∧ Fr [] w w' := by
  obtain ⟨tat, ask, need⟩ := t
  dsimp only at ht
  cases need with
  | true => exact do_need w oa n oc tat ask op hn
  | false =>
    by_cases h : n ≤ tat
    · have e1 : Tp.step n ⟨tat, ask, false⟩ op = ⟨tat, op, true⟩ := by unfold Tp.step; rw [if_neg (by simp), if_pos h]
      have e2 : Tp.out l ⟨tat, ask, false⟩ = ⟨0, 0, false⟩ := by unfold Tp.out; rw [if_neg (by simp), List.getElem?_eq_none (by dsimp only; omega)]; rfl
      rw [e1, e2]
      exact do_ask w oa n oc tat ask op hn h ht
    · have e1 : Tp.step n ⟨tat, ask, false⟩ op = ⟨tat + 1, ask, false⟩ := by unfold Tp.step; rw [if_neg (by simp), if_neg h]
      have e2 : Tp.out l ⟨tat, ask, false⟩ = l[tat]'(by omega) := by unfold Tp.out; rw [if_neg (by simp), List.getElem?_eq_getElem (by dsimp only; omega)]; rfl
      rw [e1, e2]
      exact do_next w oa n oc tat ask op hn (by omega) l hl hO
set_option maxRecDepth 100000 in
set_option maxHeartbeats 4000000 in
theorem store_any (w : World) (oa : Option Addr) (n oc : Nat) (t : Tp) (at_ nv ns : Int) (hn : n ≤ 100000) (ht : t.at_ ≤ 200000) (l : List O3) (hl : l.length = n) (hO : ArgE enO 3 w (.slice oa n oc) l) :
    Calls Try.prog 118 #[.agg (tapeL (.slice oa n oc) t).toArray, .int .i64 at_, .agg #[.int .u64 nv, .int .u64 ns]] w fun e w' => e = .returned (.agg (tapeL (.slice oa n oc) (t.step n ⟨1, at_, 0, 0, nv, ns⟩)).toArray) ∧ Fr [] w w' := by
  have hS := (((Sep.nil (Fr.refl [] w)).new 47 (tapeL (.slice oa n oc) t)).new 41 [.int .u64 nv, .int .u64 ns]).new 47 [.slice none 0 0, .int .i64 0, .int .i64 0, .int .i64 0, .int .u64 0, .int .u64 0, .int .u64 0, .int .u64 0, .bool false]
  simp only [World.size_alloc] at hS
  have HS := Lib.hid hS
  have HD : Hid (∀ w', Fr [] w w' → Calls Try.prog 120 #[.agg (tapeL (.slice oa n oc) t).toArray, .agg #[.int .i64 1, .int .i64 at_, .int .u64 0, .int .u64 0, .int .u64 nv, .int .u64 ns]] w' fun e w'' => e = .returned (.tuple #[.agg (tapeL (.slice oa n oc) (t.step n ⟨1, at_, 0, 0, nv, ns⟩)).toArray, .agg (enO (t.out l)).toArray]) ∧ Fr [] w' w'') :=
    fun w' f => do_any w' oa n oc t ⟨1, at_, 0, 0, nv, ns⟩ hn ht l hl (hO.fr f)
  have hone := tapeL_one oa n oc (t.step n ⟨1, at_, 0, 0, nv, ns⟩)
  generalize t.step n ⟨1, at_, 0, 0, nv, ns⟩ = t2 at *
  generalize enO (t.out l) = ol at *
  clear hS hO ht
  go_enter Try.func118, Try.ntmps118
  go_wp2_with (first | (refine wpList_load_any 47 _ rfl rfl _ 0 rfl (tapeL (.slice oa n oc) t) _ (HS.out.blk 2 rfl).range Try.underlying47 rfl (by kernel_rfl) ?_))
  refine (HD.out _ HS.out.fr).mono ?_
  rintro e w1 ⟨rfl, hf⟩
  have HT := Lib.hid (HS.out.fr0 hf); clear hf
  go_wp2_with (first | (refine wpList_store_sep HT.out 2 rfl (tapeL (.slice oa n oc) t2) 47 _ _ rfl rfl rfl rfl rfl (by kernel_rfl) hone (fun wA hA _ => ?_); have HA := Lib.hid hA; clear hA) | (refine wpList_load_any 47 _ rfl rfl _ 0 rfl (tapeL (.slice oa n oc) t2) _ (HA.out.blk 2 rfl).range Try.underlying47 rfl (by kernel_rfl) ?_) | (refine wpList_store_sep HA.out 0 rfl (tapeL (.slice oa n oc) t2) 47 _ _ rfl rfl rfl rfl rfl (by kernel_rfl) hone (fun wB hB _ => ?_); have HB := Lib.hid hB; clear hB))
  exact bodyPost_ret (v := .agg (tapeL (.slice oa n oc) t2).toArray) (res_cell Try.results118 rfl (HB.out.blk 0 rfl).range Try.underlying47 rfl (by kernel_rfl)) rfl ⟨rfl, HB.out.fr⟩
end Go.Proofs.Ytccioehckfdjdaa
