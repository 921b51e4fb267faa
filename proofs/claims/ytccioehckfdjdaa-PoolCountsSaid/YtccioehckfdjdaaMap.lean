/- A map of numbers that the call made, as a thing apart: known as a function. -/
import Derived.Test.YtccioehckfdjdaaUni
import Derived.Maps.OwnOps
import Derived.Maps.Views
set_option linter.unusedVariables false
namespace Go.Tum
open Go.RowKit Go.Maps
theorem ownsMap_fr {P : Program} {k : TypeId} {R : Value → Option (DataW Unit × List MemPlace)} {b n : Nat} {D : DataW Unit} {w w' : World} {fp : List Nat} (h : w.ownsMap P k R b n D) (f : Fr fp w w') (hn : b ∉ fp) : w'.ownsMap P k R b n D := by
  have hlt := h.lt
  obtain ⟨es, clock, hb, F, hs, hD⟩ := h
  exact ⟨es, clock, (f.block b hlt hn).trans hb, F, hs, hD⟩
/-- Block b: a map of at most n entries, from numbers of the kind kq to numbers of the kind q: f. -/
def mapT (P : Program) (k e : TypeId) (kq q : IntKind) (b n : Nat) (f : Int → Int) : Thing where
  P w fp := fp = [b] ∧ ∃ D : DataW Unit, w.ownsMap P k (plainElem P e) b n D ∧ IsMap D ∧ ∀ x, D.atKey (.int kq x) (.lit (.int q 0)) = .lit (.int q (f x))
  fr h f hn := ⟨h.1, by obtain ⟨D, h1, h2, h3⟩ := h.2; exact ⟨D, ownsMap_fr h1 f (hn _ (by simp [h.1])), h2, h3⟩⟩
  lt h := by rw [h.1]; obtain ⟨D, h1, _⟩ := h.2; simpa using h1.lt
theorem Sep.mapNew {w0 w : World} {Ts : List Thing} (h : Sep w0 w Ts) (P : Program) (k e : TypeId) (kq q : IntKind) : Sep w0 (w.alloc (.map #[] 0)) (mapT P k e kq q w.heap.size 0 (fun _ => 0) :: Ts) :=
  h.push ((Fr.refl [] w).alloc _) (fp := [w.heap.size]) ⟨rfl, _, World.ownsMap_made w P k _, isMap_empty, fun x => rfl⟩ (by simp)
section
variable {P : Program} {ops : Array Oper} {rest : List Oper} {o : Oper} {a : Act} {w w0 : World} {Q : Exit → Act → World → Prop} {Ts : List Thing} {k e : TypeId} {kq q : IntKind} {b n : Nat} {f : Int → Int}
theorem wpList_lookup_sep (h : Sep w0 w Ts) (i : Nat) (hi : Ts[i]? = some (mapT P k e kq q b n f)) (hw : Region.wanted o (yielded ops a.tmps) = true) (m x : Operand) (t : TypeId) (hop : o.op = Op.lookup t m x false)
    (hkk : P.underlying k = some (.int kq)) (ht : P.underlying t = some (.map k e)) (he : P.underlying e = some (.int q)) (hz : ∀ w, (zeroValue e).run P w = .ok (.int q 0) w)
    (hm : a.eval m = .map (some b)) (y : Int) (hx : a.eval x = .int kq y) (hy : (Lit.int kq y).wf = true)
    (hK : wpList P ops Q rest (a.put o.dst (.int q (f y))) w) : wpList P ops Q (o :: rest) a w := by
  obtain ⟨fp, ⟨_, D, h1, h2, h3⟩, _⟩ := h.get i hi
  obtain ⟨c, hrun, hat, hwc⟩ := h1.lookup_int (int_keyed hkk) ht he (hz w) (keyOf_int_mk hkk hy)
  rw [h3 y] at hat
  have : f y = c := by injection hat with hc; injection hc
  unfold wpList
  rw [if_pos hw]
  refine .inl ?_
  unfold Oper.wp
  simp [execOp, hop, hm, hx, hrun, Result.andThen]
  rw [← this]; exact hK
theorem wpList_update_sep (h : Sep w0 w Ts) (i : Nat) (hi : Ts[i]? = some (mapT P k e kq q b n f)) (hg : o.guard = none) (m x v : Operand) (t : TypeId) (hop : o.op = Op.mapUpdate t m x v)
    (hkk : P.underlying k = some (.int kq)) (ht : P.underlying t = some (.map k e)) (he : P.underlying e = some (.int q))
    (hm : a.eval m = .map (some b)) (y : Int) (hx : a.eval x = .int kq y) (hy : (Lit.int kq y).wf = true) (u : Int) (hv : a.eval v = .int q u) (hu : (Lit.int q u).wf = true) (hn : n < maxLen)
    (hK : ∀ w', Sep w0 w' (Ts.set i (mapT P k e kq q b (n + 1) (fun z => if z = y then u else f z))) → Fr [b] w w' → wpList P ops Q rest (a.put o.dst undef) w') : wpList P ops Q (o :: rest) a w := by
  obtain ⟨fp, ⟨hfp, D, h1, h2, h3⟩, _, hset⟩ := h.get i hi
  refine wpList_mapUpdate_own w hg m x v t hop k e (int_keyed hkk) ht _ b n D hm h1 hn _ _ _ hx hv (keyOf_int_mk hkk hy) _ [] (plainElem_int he hu) fun w' h1' hgr => ?_
  have hfr : Fr [b] w w' := (Fr.refl [b] w).grown hgr (fun k e => .inl (by simpa using e.symm))
  refine hK w' (hset _ w' [b] ⟨rfl, _, h1', h2.put _ _, fun z => ?_⟩ (by rw [hfp]; exact hfr) (fun k hk => .inl (by rw [hfp]; exact hk))) hfr
  dsimp only
  by_cases e : z = y
  · subst e
    rw [if_pos rfl]
    exact atKey_put_same h2 (by first | exact ⟨_, _, rfl⟩ | exact trivial | simp [WideAt.IsKeyLit]) _ _
  · rw [if_neg e, atKey_put_other (by simp; exact e), h3]
end
end Go.Tum
