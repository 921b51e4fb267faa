/- A map whose keys are counted (from XHmany0: never import both). -/
import Derived.Test.YtccioehckfdjdaaMap
import Derived.Test.YtccioehckfdjdaaJoin
import Derived.Maps.OwnSet
set_option linter.unusedSimpArgs false
set_option linter.unusedVariables false
namespace Go.Tum
open Go.RowKit Go.Maps
/-- Block b: a map from numbers of the kind kq to numbers of the kind q: f; n keys, at most k entries: just where f isn't 0. -/
def cntT (P : Program) (k e : TypeId) (kq q : IntKind) (b : Nat) (K : List Int) (f : Int → Int) : Thing where
  P w fp := fp = [b] ∧ ∃ D : DataW Unit, w.ownsMap P k (plainElem P e) b K.length D ∧ Tidy D ∧ size D = K.length ∧ (∀ x, has D (.int kq x) = decide (x ∈ K)) ∧ ∀ x, D.atKey (.int kq x) (.lit (.int q 0)) = .lit (.int q (f x))
  fr h f hn := ⟨h.1, by obtain ⟨D, h1, h2⟩ := h.2; exact ⟨D, ownsMap_fr h1 f (hn _ (by simp [h.1])), h2⟩⟩
  lt h := by rw [h.1]; obtain ⟨D, h1, _⟩ := h.2; simpa using h1.lt
theorem Sep.cntNew {w0 w : World} {Ts : List Thing} (h : Sep w0 w Ts) (P : Program) (k e : TypeId) (kq q : IntKind) : Sep w0 (w.alloc (.map #[] 0)) (cntT P k e kq q w.heap.size [] (fun _ => 0) :: Ts) :=
  h.push ((Fr.refl [] w).alloc _) (fp := [w.heap.size]) ⟨rfl, _, World.ownsMap_made w P k _, tidy_empty, rfl, fun x => rfl, fun x => rfl⟩ (by simp)
section
variable {P : Program} {ops : Array Oper} {rest : List Oper} {o : Oper} {a : Act} {w w0 : World} {Q : Exit → Act → World → Prop} {Ts : List Thing} {k e : TypeId} {kq q : IntKind} {b : Nat} {K : List Int} {f : Int → Int}
theorem wpList_lookup_cnt (h : Sep w0 w Ts) (i : Nat) (hi : Ts[i]? = some (cntT P k e kq q b K f)) (hw : Region.wanted o (yielded ops a.tmps) = true) (m x : Operand) (t : TypeId) (hop : o.op = Op.lookup t m x false)
    (hkk : P.underlying k = some (.int kq)) (ht : P.underlying t = some (.map k e)) (he : P.underlying e = some (.int q)) (hz : ∀ w, (zeroValue e).run P w = .ok (.int q 0) w)
    (hm : a.eval m = .map (some b)) (y : Int) (hx : a.eval x = .int kq y) (hy : (Lit.int kq y).wf = true)
    (hK : wpList P ops Q rest (a.put o.dst (.int q (f y))) w) : wpList P ops Q (o :: rest) a w := by
  obtain ⟨fp, ⟨_, D, h1, h2, _, _, h3⟩, _⟩ := h.get i hi
  obtain ⟨c, hrun, hat, hwc⟩ := h1.lookup_int (int_keyed hkk) ht he (hz w) (keyOf_int_mk hkk hy)
  rw [h3 y] at hat
  have : f y = c := by injection hat with hc; injection hc
  unfold wpList
  rw [if_pos hw]
  refine .inl ?_
  unfold Oper.wp
  simp [execOp, hop, hm, hx, hrun, Result.andThen]
  rw [← this]; exact hK
theorem wpList_update_cnt (h : Sep w0 w Ts) (i : Nat) (hi : Ts[i]? = some (cntT P k e kq q b K f)) (hg : o.guard = none) (m x v : Operand) (t : TypeId) (hop : o.op = Op.mapUpdate t m x v)
    (hkk : P.underlying k = some (.int kq)) (ht : P.underlying t = some (.map k e)) (he : P.underlying e = some (.int q))
    (hm : a.eval m = .map (some b)) (y : Int) (hx : a.eval x = .int kq y) (hy : (Lit.int kq y).wf = true) (u : Int) (hv : a.eval v = .int q u) (hu : (Lit.int q u).wf = true) (hn : K.length < maxLen)
    (hK : ∀ w', Sep w0 w' (Ts.set i (cntT P k e kq q b (if y ∈ K then K else y :: K) (fun z => if z = y then u else f z))) → Fr [b] w w' → wpList P ops Q rest (a.put o.dst undef) w') : wpList P ops Q (o :: rest) a w := by
  obtain ⟨fp, ⟨hfp, D, h1, h2, hsz, hhas, h3⟩, _, hset⟩ := h.get i hi
  have hkey : WideAt.IsKeyLit (Lit.int kq y) := by first | exact ⟨_, _, rfl⟩ | exact trivial | simp [WideAt.IsKeyLit]
  refine wpList_mapUpdate_own w hg m x v t hop k e (int_keyed hkk) ht _ b _ D hm h1 hn _ _ _ hx hv (keyOf_int_mk hkk hy) _ [] (plainElem_int he hu) fun w' h1' hgr => ?_
  have hfr : Fr [b] w w' := (Fr.refl [b] w).grown hgr (fun k e => .inl (by simpa using e.symm))
  have hsp := size_put (k := Lit.int kq y) h2 (DataW.lit (.int q u))
  rw [hhas y, hsz] at hsp
  have hlen : size (D.put (.int kq y) (.lit (.int q u))) = (if y ∈ K then K else y :: K).length := by
    rw [hsp]
    by_cases hm2 : y ∈ K
    · simp [hm2]
    · simp [hm2]
  refine hK w' (hset _ w' [b] ⟨rfl, _, ?_, h2.put hkey _, hlen, fun z => ?_, fun z => ?_⟩ (by rw [hfp]; exact hfr) (fun k hk => .inl (by rw [hfp]; exact hk))) hfr
  · have hle := h1'.size_le
    rw [hlen] at hle
    obtain ⟨es, clock, hb, F, hs, hD⟩ := h1'
    refine ⟨es, clock, hb, F, ?_, hD⟩
    have : size (D.put (.int kq y) (.lit (.int q u))) = es.size := by rw [hD]; simp [size, length_sorted]
    omega
  · by_cases e : z = y
    · subst e
      rw [has_put_same h2.isMap hkey]
      by_cases hm2 : z ∈ K <;> simp [hm2]
    · rw [has_put_other (by simp; exact e), hhas z]
      by_cases hm2 : y ∈ K <;> simp [hm2, e]
  · dsimp only
    by_cases e : z = y
    · subst e
      rw [if_pos rfl]
      exact atKey_put_same h2.isMap hkey _ _
    · rw [if_neg e, atKey_put_other (by simp; exact e), h3]
theorem wpList_len_cnt (h : Sep w0 w Ts) (i : Nat) (hi : Ts[i]? = some (cntT P k e kq q b K f)) (hg : o.guard = none) (m : Operand) (t : TypeId) (hop : o.op = Op.call { callee := Callee.builtin Builtin.len, args := #[m], argTypes := #[t] })
    (ht : P.underlying t = some (.map k e)) (hm : a.eval m = .map (some b)) (hK : wpList P ops Q rest (a.put o.dst (.int .i64 (K.length : Int))) w) : wpList P ops Q (o :: rest) a w := by
  obtain ⟨fp, ⟨_, D, h1, _, hsz, _, _⟩, _⟩ := h.get i hi
  refine wpList_len_own w hg m t hop k e ht _ b _ D hm h1 ?_
  rw [hsz]; exact hK
theorem cnt_len (h : Sep w0 w Ts) (i : Nat) (hi : Ts[i]? = some (cntT P k e kq q b K f)) {t : TypeId} (ht : P.underlying t = some (.map k e)) (ty : TypeId) : (Builtin.len_ #[t] ty #[.map (some b)]).run P w = .ok (.int .i64 (K.length : Int)) w := by
  obtain ⟨fp, ⟨_, D, h1, _, hsz, _, _⟩, _⟩ := h.get i hi
  have := h1.len ht ty
  rwa [hsz] at this
end
end Go.Tum
