/- Several texts in one: Load, Load2, Uni. -/
import Derived.Test.YtccioehckfdjdaaMBase
import Derived.Test.YtccioehckfdjdaaSep
import Derived.Deep.MidRow
import Derived.Deep.WholeRow
import Derived.Test.YtccioehckfdjdaaYplain
/- A struct of many cells, read whole inside a region that draws its order. -/
section
set_option linter.unusedSimpArgs false
set_option linter.unusedVariables false
namespace Go.Tum
open Go.RowKit

theorem wpQuiet_load_mid {P : Program} {ops : Array Oper} {C : World → Prop} {K : Act → Prop} {a : Act} {o : Oper} {rest : List Oper} (ty : TypeId) (x : Operand) (b off : Nat) (cs : List Value) (d : TypeDesc) (ho : o.op = .load ty x) (hw : Region.wanted o (yielded ops a.tmps) = true)
    (hx : a.eval x = .pointer (some ⟨b, off, none⟩)) (hS : ∀ w, C w → w.rangeAt b off cs) (hu : P.underlying ty = some d) (hd : d.isRow = true) (hi : (P.info? ty).map (·.size) = some cs.length)
    (h : wpQuiet P ops C K rest (a.put o.dst (.agg cs.toArray))) : wpQuiet P ops C K (o :: rest) a := by
  unfold wpQuiet
  rw [if_pos hw]
  refine ⟨_, fun w hw' => ?_, h⟩
  unfold Oper.quietAt execOp
  simp only [ho, hx, Sem.run_bind, Sem.run_pure, Result.andThen_ok, run_loadAt_mid w b off ty cs d (hS w hw') hu hd hi, Oper.quietUpon]
  exact ⟨trivial, trivial⟩
theorem rangeAt_after {fp : List Nat} {w0 : World} {b : Nat} {T : TypeId} {cs : List Value} (h : Blk w0 b T cs) (hn : b ∉ fp) : ∀ w', (∃ x : After fp w0, w' = x.wd) → w'.rangeAt b 0 cs := by
  rintro _ ⟨x, rfl⟩ j v hj
  rw [(h.fr x.fr hn).cell, Nat.zero_add]; exact hj
theorem wpList_load_any {P : Program} {ops : Array Oper} {rest : List Oper} {op : Oper} {a : Act} {w : World} {Q : Exit → Act → World → Prop} (ty : TypeId) (x : Operand) (ho : op.op = .load ty x) (hw : Region.wanted op (yielded ops a.tmps) = true)
    (b o : Nat) (hx : a.eval x = .pointer (some ⟨b, o, none⟩)) (cs : List Value) (d : TypeDesc) (hc : w.rangeAt b o cs)
    (hu : P.underlying ty = some d) (hd : d.isRow = true) (hi : (P.info? ty).map (·.size) = some cs.length)
    (h : wpList P ops Q rest (a.put op.dst (.agg cs.toArray)) w) : wpList P ops Q (op :: rest) a w := by
  unfold wpList
  rw [if_pos hw]
  exact .inl (wp_load_mid ty x ho b o hx cs d hc hu hd hi h)
theorem Blk.range {w : World} {b : Nat} {T : TypeId} {cs : List Value} (h : Blk w b T cs) : w.rangeAt b 0 cs := fun j v hj => by rw [h.cell, Nat.zero_add]; exact hj

/-! ### a struct of many cells, written whole -/
def setL : List Value → Nat → List Value → List Value
  | cs, _, [] => cs
  | cs, o, v :: r => setL (cs.set o v) (o + 1) r
theorem setL_length : ∀ (vs : List Value) (cs : List Value) (o : Nat), (setL cs o vs).length = cs.length
  | [], _, _ => rfl
  | v :: r, cs, o => by rw [setL, setL_length r]; simp
theorem setL_get : ∀ (vs : List Value) (cs : List Value) (o j : Nat), j < cs.length → (setL cs o vs)[j]? = if o ≤ j ∧ j < o + vs.length then vs[j - o]? else cs[j]?
  | [], cs, o, j, _ => by simp only [setL, List.length_nil]; rw [if_neg (by omega)]
  | v :: r, cs, o, j, hj => by
    rw [setL, setL_get r _ _ j (by simpa using hj)]
    by_cases h1 : o + 1 ≤ j ∧ j < o + 1 + r.length
    · rw [if_pos h1, if_pos (by simp only [List.length_cons]; omega), show j - o = j - (o + 1) + 1 by omega, List.getElem?_cons_succ]
    · rw [if_neg h1]
      by_cases h2 : j = o
      · subst h2
        rw [if_pos (by simp only [List.length_cons]; omega), Nat.sub_self, List.getElem?_set_self hj]; rfl
      · rw [if_neg (by simp only [List.length_cons]; omega), List.getElem?_set_ne (fun e => h2 e.symm)]
theorem setL_all {cs vs : List Value} (h : vs.length = cs.length) : setL cs 0 vs = vs := by
  apply List.ext_getElem?
  intro j
  by_cases hj : j < cs.length
  · rw [setL_get vs cs 0 j hj, if_pos (by omega), Nat.sub_zero]
  · rw [List.getElem?_eq_none (by rw [setL_length]; omega), List.getElem?_eq_none (by omega)]
theorem Blk.setCells {k : Nat} {T : TypeId} : ∀ (vs : List Value) {w : World} {cs : List Value} (o : Nat), Blk w k T cs → Blk (w.setCells k o vs) k T (setL cs o vs)
  | [], _, _, _, h => h
  | v :: r, _, _, o, h => Blk.setCells r (o + 1) (h.set o v)
theorem Fr.setCells {fp : List Nat} {k : Nat} (hk : k ∈ fp) : ∀ (vs : List Value) {a w : World} (o : Nat), Fr fp a w → Fr fp a (w.setCells k o vs)
  | [], _, _, _, h => h
  | v :: r, _, _, o, h => Fr.setCells hk r (o + 1) (h.setCell (.inl hk) v)
theorem Blk.there {w : World} {k : Nat} {T : TypeId} {cs : List Value} (h : Blk w k T cs) (n : Nat) (hn : n = cs.length) : w.there k 0 n := fun j hj => by
  refine ⟨?_, h.froz _⟩
  rw [h.cell, Nat.zero_add]; simp; omega
theorem Sep.setAll {w0 w : World} {Ts : List Thing} (h : Sep w0 w Ts) (i : Nat) {k : Nat} {T : TypeId} {cs : List Value} (hi : Ts[i]? = some (blkT k T cs)) (vs : List Value) (hl : vs.length = cs.length) :
    Sep w0 (w.setCells k 0 vs) (Ts.set i (blkT k T vs)) := by
  obtain ⟨fp, hp, _, hk⟩ := h.get i hi
  refine hk _ _ [k] ⟨rfl, ?_⟩ (Fr.setCells (by simp [hp.1]) vs 0 (Fr.refl fp w)) (fun q hq => .inl (by rw [hp.1]; exact hq))
  have := hp.2.setCells vs 0
  rwa [setL_all hl] at this

/-! ### results that lie in a cell -/
theorem res_cell_tmp {P : Program} {fn : Func} {tmps : Array Value} {w : World} {a t j b : Nat} {cs : List Value} {d : TypeDesc} {v2 : Value} (hr : fn.results = #[.cell a t, .tmp j]) (ha : tmps.getD a undef = .pointer (some ⟨b, 0, none⟩)) (hj : tmps.getD j undef = v2)
    (hc : w.rangeAt b 0 cs) (hu : P.underlying t = some d) (hd : d.isRow = true) (hi : (P.info? t).map (·.size) = some cs.length) : (results fn tmps).run P w = .ok (.tuple #[.agg cs.toArray, v2]) w := by
  have h1 := run_loadVar_mid (P := P) w b 0 t cs d hc hu hd hi
  rw [Array.getD_eq_getD_getElem?] at ha hj
  simp [results, hr, ha, hj, asAddr, Sem.run_bind, h1]
theorem res_cell {P : Program} {fn : Func} {tmps : Array Value} {w : World} {a t b : Nat} {cs : List Value} {d : TypeDesc} (hr : fn.results = #[.cell a t]) (ha : tmps.getD a undef = .pointer (some ⟨b, 0, none⟩))
    (hc : w.rangeAt b 0 cs) (hu : P.underlying t = some d) (hd : d.isRow = true) (hi : (P.info? t).map (·.size) = some cs.length) : (results fn tmps).run P w = .ok (.agg cs.toArray) w := by
  have h1 := run_loadVar_mid (P := P) w b 0 t cs d hc hu hd hi
  rw [Array.getD_eq_getD_getElem?] at ha
  simp [results, hr, ha, asAddr, Sem.run_bind, h1]

/-- Things that a call made, beside those that there were. -/
theorem Sep.append {w0 w w' : World} {Ts Us : List Thing} (h : Sep w0 w Ts) (k : Sep w w' Us) : Sep w0 w' (Us ++ Ts) := by
  have hs := h.1.size
  obtain ⟨h0, F, hF, hd⟩ := h
  obtain ⟨k0, G, hG, kd⟩ := k
  refine ⟨h0.trans k0, fun i => if i < Us.length then G i else F (i - Us.length), fun i T hi => ?_, fun i j hi hj hij q hq => ?_⟩
  · by_cases hl : i < Us.length
    · rw [List.getElem?_append_left hl] at hi
      simp only [if_pos hl]
      exact ⟨(hG i T hi).1, fun k hk => by have := (hG i T hi).2 k hk; omega⟩
    · rw [List.getElem?_append_right (by omega)] at hi
      simp only [if_neg hl]
      exact ⟨T.fr (hF _ T hi).1 k0 (by simp), (hF _ T hi).2⟩
  · rw [List.length_append] at hi hj
    have low : ∀ i, i < Us.length + Ts.length → ¬ i < Us.length → ∀ q ∈ F (i - Us.length), q < w.heap.size := fun i hi hl q hq =>
      (Ts[i - Us.length]'(by omega)).lt (hF _ _ (List.getElem?_eq_getElem (by omega))).1 q hq
    have high : ∀ i, i < Us.length → ∀ q ∈ G i, w.heap.size ≤ q := fun i hl q hq => (hG i _ (List.getElem?_eq_getElem hl)).2 q hq
    dsimp only at hq ⊢
    split at hq <;> rename_i hl1 <;> split <;> rename_i hl2
    · exact kd i j hl1 hl2 hij q hq
    · intro hm
      have := high i hl1 q hq
      have := low j hj hl2 q hm
      omega
    · intro hm
      have := low i hi hl1 q hq
      have := high j hl2 q hm
      omega
    · exact hd _ _ (by omega) (by omega) (by omega) q hq
end Go.Tum
end

/- A struct of many cells, stored whole into a new block. -/
section
set_option linter.unusedSimpArgs false
set_option linter.unusedVariables false
namespace Go.Tum
open Go.RowKit

/-- A struct stored whole into the block that was just made. -/
theorem wpList_store_new {P : Program} {ops : Array Oper} {rest : List Oper} {op : Oper} {a : Act} {w : World} {Q : Exit → Act → World → Prop} (ty : TypeId) (c c' : Array Value) (hgd : op.guard = none) (x y : Operand) (ho : op.op = .store ty x y)
    (hx : a.eval x = .pointer (some ⟨w.heap.size, 0, none⟩)) (hy : a.eval y = .agg c') (hi : (P.info? ty).map (·.size) = some c'.size) (hs : c.size = c'.size) (h1 : c'.all (·.oneCell') = true)
    (h : wpList P ops Q rest (a.put op.dst undef) (w.alloc (.cells c' ty))) : wpList P ops Q (op :: rest) a (w.alloc (.cells c ty)) := by
  refine wpList_plain hgd fun K hK => ?_
  unfold Oper.wp execOp
  simp only [ho, hx, hy, Sem.run_bind, Sem.run_pure, Result.andThen_ok, run_storeAt_new w ty c c' hi hs h1]
  exact hK _ _ h
/-- A field, one cell, of a struct by value. -/
theorem run_field_cell {P : Program} (w : World) (T : TypeId) (cs : Array Value) (i : Nat) (fs : Array Field) (f : Field) (d : TypeDesc) (v : Value) (hu : P.underlying T = some (.struct fs)) (hf : fs[i]? = some f) (hu2 : P.underlying f.type = some d) (hd : d.isRow = false) (hv : cs[f.offset]? = some v) :
    (Instr.field T (.agg cs) i).run P w = .ok v w := by
  have hagg : (isAgg f.type).run P w = .ok false w := by
    unfold isAgg
    rw [Sem.run_bind, run_underlying hu2 w]
    cases d <;> simp_all
  simp [Instr.field, Sem.run_bind, run_underlying hu w, hf, asAgg, part, hagg, hv]
end Go.Tum
end

/- Small facts that several chapters' texts share. -/
section
namespace Go.Tum
open Go.RowKit
theorem rangeAt_pre {fp : List Nat} {w0 : World} {b : Nat} {T : TypeId} {cs tl : List Value} (h : Blk w0 b T (cs ++ tl)) (hn : b ∉ fp) : ∀ w', (∃ x : After fp w0, w' = x.wd) → w'.rangeAt b 0 cs := by
  rintro _ ⟨x, rfl⟩ j v hj
  rw [(h.fr x.fr hn).cell, Nat.zero_add, List.getElem?_append_left (List.getElem?_eq_some_iff.1 hj).1]; exact hj
theorem Blk.pre {w : World} {b : Nat} {T : TypeId} {cs tl : List Value} (h : Blk w b T (cs ++ tl)) : w.rangeAt b 0 cs := by
  intro j v hj
  rw [h.cell, Nat.zero_add, List.getElem?_append_left (List.getElem?_eq_some_iff.1 hj).1]; exact hj
theorem Sep.ne {w0 w : World} {Ts : List Thing} (h : Sep w0 w Ts) (i j : Nat) {k k' : Nat} {T T' : TypeId} {cs cs' : List Value} (hi : Ts[i]? = some (blkT k T cs)) (hj : Ts[j]? = some (blkT k' T' cs')) (hij : i ≠ j) : k ≠ k' := by
  obtain ⟨h0, F, hF, hd⟩ := h
  have p0 := (hF i _ hi).1.1
  have p1 := (hF j _ hj).1.1
  have d := hd i j (List.getElem?_eq_some_iff.1 hi).1 (List.getElem?_eq_some_iff.1 hj).1 hij
  rw [p0, p1] at d
  intro e
  exact d k (by simp) (by simp [e])
theorem Sep.ge {w0 w : World} {Ts : List Thing} (h : Sep w0 w Ts) (i : Nat) {k : Nat} {T : TypeId} {cs : List Value} (hi : Ts[i]? = some (blkT k T cs)) : w0.heap.size ≤ k := by
  obtain ⟨h0, F, hF, hd⟩ := h
  have p := hF i _ hi
  have e := p.1.1
  exact p.2 k (by rw [e]; simp)
theorem Sep.snd {w0 w : World} {T U : Thing} {Ts : List Thing} (h : Sep w0 w (T :: U :: Ts)) : Sep w0 w (T :: Ts) := (h.pull 1 rfl).tail
end Go.Tum
namespace Go.Proofs.Ytccioehckfdjdaa
open Go.RowKit Go.Tum Go.Tum.Y
theorem oneMap (c : Cfg) : ∀ v ∈ mapCells c, v.oneCell' = true := by simp [mapCells, Value.oneCell']
end Go.Proofs.Ytccioehckfdjdaa
end
