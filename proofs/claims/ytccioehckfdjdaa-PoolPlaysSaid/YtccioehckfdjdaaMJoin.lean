/- Several texts in one: Join, Map, CntT. -/
import Derived.Test.YtccioehckfdjdaaSep
import Derived.Test.YtccioehckfdjdaaMLoad
import Derived.Maps.OwnOps
import Derived.Maps.Views
import Derived.Maps.OwnSet
/- Things made of things: one of several; two side by side. -/
section
namespace Go.Tum
open Go.RowKit
/-- Some one of them. -/
def exT {A : Type} (T : A → Thing) : Thing where
  P w fp := ∃ a, (T a).P w fp
  fr h f hn := by obtain ⟨a, h⟩ := h; exact ⟨a, (T a).fr h f hn⟩
  lt h := by obtain ⟨a, h⟩ := h; exact (T a).lt h
/-- With a fact that does not turn. -/
def factT (p : Prop) (T : Thing) : Thing where
  P w fp := p ∧ T.P w fp
  fr h f hn := ⟨h.1, T.fr h.2 f hn⟩
  lt h := T.lt h.2
/-- Two, side by side. -/
def andT (T U : Thing) : Thing where
  P w fp := ∃ f g, fp = f ++ g ∧ T.P w f ∧ U.P w g ∧ ∀ k ∈ f, k ∉ g
  fr h f hn := by
    obtain ⟨p, q, rfl, h1, h2, h3⟩ := h
    exact ⟨p, q, rfl, T.fr h1 f (fun k hk => hn k (by simp [hk])), U.fr h2 f (fun k hk => hn k (by simp [hk])), h3⟩
  lt h := by
    obtain ⟨p, q, rfl, h1, h2, _⟩ := h
    intro k hk
    rcases List.mem_append.1 hk with hk | hk
    · exact T.lt h1 k hk
    · exact U.lt h2 k hk
theorem Sep.ofEx {w0 w : World} {A : Type} {T : A → Thing} {R : List Thing} (h : Sep w0 w (exT T :: R)) : ∃ a, Sep w0 w (T a :: R) := by
  obtain ⟨fp, ⟨a, hp⟩, _, hk⟩ := h.get 0 rfl
  exact ⟨a, hk (T a) w fp hp (Fr.refl _ _) (fun q hq => .inl hq)⟩
theorem Sep.toEx {w0 w : World} {A : Type} (T : A → Thing) {a : A} {R : List Thing} (h : Sep w0 w (T a :: R)) : Sep w0 w (exT T :: R) := by
  obtain ⟨fp, hp, _, hk⟩ := h.get 0 rfl
  exact hk (exT T) w fp ⟨a, hp⟩ (Fr.refl _ _) (fun q hq => .inl hq)
theorem Sep.ofFact {w0 w : World} {p : Prop} {T : Thing} {R : List Thing} (h : Sep w0 w (factT p T :: R)) : p ∧ Sep w0 w (T :: R) := by
  obtain ⟨fp, ⟨hp0, hp⟩, _, hk⟩ := h.get 0 rfl
  exact ⟨hp0, hk T w fp hp (Fr.refl _ _) (fun q hq => .inl hq)⟩
theorem Sep.toFact {w0 w : World} {p : Prop} {T : Thing} {R : List Thing} (h : Sep w0 w (T :: R)) (h0 : p) : Sep w0 w (factT p T :: R) := by
  obtain ⟨fp, hp, _, hk⟩ := h.get 0 rfl
  exact hk (factT p T) w fp ⟨h0, hp⟩ (Fr.refl _ _) (fun q hq => .inl hq)
theorem Sep.ofAnd {w0 w : World} {T U : Thing} {R : List Thing} (h : Sep w0 w (andT T U :: R)) : Sep w0 w (T :: U :: R) := by
  obtain ⟨h0, F, hF, hd⟩ := h
  obtain ⟨⟨f, g, hfg, h1, h2, h3⟩, hb⟩ := hF 0 _ rfl
  refine ⟨h0, fun i => match i with | 0 => f | 1 => g | i + 2 => F (i + 1), fun i Ti hi => ?_, fun i j hi hj hij q hq => ?_⟩
  · match i, hi with
    | 0, hi => obtain rfl : T = Ti := by simpa using hi
               exact ⟨h1, fun k hk => hb k (by rw [hfg]; simp [hk])⟩
    | 1, hi => obtain rfl : U = Ti := by simpa using hi
               exact ⟨h2, fun k hk => hb k (by rw [hfg]; simp [hk])⟩
    | i + 2, hi => exact hF (i + 1) Ti (by simpa using hi)
  · simp only [List.length_cons] at hi hj

    match i, j with
    | 0, 0 => omega
    | 1, 1 => omega
    | 0, 1 => exact h3 q hq
    | 1, 0 => intro hm; exact h3 q hm hq
    | 0, j + 2 => exact hd 0 (j + 1) (by simp) (by simp only [List.length_cons]; omega) (by omega) q (by rw [hfg]; simp; exact .inl hq)
    | 1, j + 2 => exact hd 0 (j + 1) (by simp) (by simp only [List.length_cons]; omega) (by omega) q (by rw [hfg]; simp; exact .inr hq)
    | i + 2, 0 => intro hm; exact hd (i + 1) 0 (by simp only [List.length_cons]; omega) (by simp) (by omega) q hq (by rw [hfg]; simp; exact .inl hm)
    | i + 2, 1 => intro hm; exact hd (i + 1) 0 (by simp only [List.length_cons]; omega) (by simp) (by omega) q hq (by rw [hfg]; simp; exact .inr hm)
    | i + 2, j + 2 => exact hd (i + 1) (j + 1) (by simp only [List.length_cons]; omega) (by simp only [List.length_cons]; omega) (by omega) q hq
theorem Sep.toAnd {w0 w : World} {T U : Thing} {R : List Thing} (h : Sep w0 w (T :: U :: R)) : Sep w0 w (andT T U :: R) := by
  obtain ⟨h0, F, hF, hd⟩ := h
  have h1 := hF 0 _ rfl
  have h2 := hF 1 _ rfl
  refine ⟨h0, fun i => match i with | 0 => F 0 ++ F 1 | i + 1 => F (i + 2), fun i Ti hi => ?_, fun i j hi hj hij q hq => ?_⟩
  · match i, hi with
    | 0, hi =>
      obtain rfl : andT T U = Ti := by simpa using hi
      refine ⟨⟨F 0, F 1, rfl, h1.1, h2.1, hd 0 1 (by simp) (by simp) (by omega)⟩, fun k hk => ?_⟩
      rcases List.mem_append.1 hk with hk | hk
      · exact h1.2 k hk
      · exact h2.2 k hk
    | i + 1, hi => exact hF (i + 2) Ti (by simpa using hi)
  · simp only [List.length_cons] at hi hj
    match i, j with
    | 0, 0 => omega
    | 0, j + 1 =>
      rcases List.mem_append.1 hq with hq | hq
      · exact hd 0 (j + 2) (by simp) (by simp only [List.length_cons]; omega) (by omega) q hq
      · exact hd 1 (j + 2) (by simp) (by simp only [List.length_cons]; omega) (by omega) q hq
    | i + 1, 0 =>
      intro hm
      rcases List.mem_append.1 hm with hm | hm
      · exact hd (i + 2) 0 (by simp only [List.length_cons]; omega) (by simp) (by omega) q hq hm
      · exact hd (i + 2) 1 (by simp only [List.length_cons]; omega) (by simp) (by omega) q hq hm
    | i + 1, j + 1 => exact hd (i + 2) (j + 2) (by simp only [List.length_cons]; omega) (by simp only [List.length_cons]; omega) (by omega) q hq
end Go.Tum
end

/- A map of numbers that the call made, as a thing apart: known as a function. -/
section
set_option linter.unusedVariables false
namespace Go.Tum
open Go.RowKit Go.Maps
theorem ownsMap_fr {P : Program} {k : TypeId} {R : Value → Option (DataW Unit × List MemPlace)} {b n : Nat} {D : DataW Unit} {w w' : World} {fp : List Nat} (h : w.ownsMap P k R b n D) (f : Fr fp w w') (hn : b ∉ fp) : w'.ownsMap P k R b n D := by
  have hlt := h.lt
  obtain ⟨es, clock, hb, F, hs, hD⟩ := h
  exact ⟨es, clock, (f.block b hlt hn).trans hb, F, hs, hD⟩
/-- Block b: a map of at most n entries, from numbers of the kind kq to numbers of the kind q: f. -/
def mapT (P : Program) (k e : TypeId) (kq q : IntKind) (b n : Nat) (f : Int → Int) : Thing where
  P w fp := fp = [b] ∧ ∃ D : DataW Unit, w.ownsMap P k (plainElem P e) b n D ∧ IsMap D ∧ ∀ x, D.atKey (.int kq x) (.lit (.int q 0)) = .lit (.int q (f x))
  fr h f hn := ⟨h.1, by obtain ⟨D, h1, h2, h3⟩ := h.2; exact ⟨D, ownsMap_fr h1 f (hn _ (by simp [h.1])), h2, h3⟩⟩
  lt h := by rw [h.1]; obtain ⟨D, h1, _⟩ := h.2; simpa using h1.lt
theorem Sep.mapNew {w0 w : World} {Ts : List Thing} (h : Sep w0 w Ts) (P : Program) (k e : TypeId) (kq q : IntKind) : Sep w0 (w.alloc (.map #[] 0)) (mapT P k e kq q w.heap.size 0 (fun _ => 0) :: Ts) :=
  h.push ((Fr.refl [] w).alloc _) (fp := [w.heap.size]) ⟨rfl, _, World.ownsMap_made w P k _, isMap_empty, fun x => rfl⟩ (by simp)
section
variable {P : Program} {ops : Array Oper} {rest : List Oper} {o : Oper} {a : Act} {w w0 : World} {Q : Exit → Act → World → Prop} {Ts : List Thing} {k e : TypeId} {kq q : IntKind} {b n : Nat} {f : Int → Int}
theorem wpList_lookup_sep (h : Sep w0 w Ts) (i : Nat) (hi : Ts[i]? = some (mapT P k e kq q b n f)) (hw : Region.wanted o (yielded ops a.tmps) = true) (m x : Operand) (t : TypeId) (hop : o.op = Op.lookup t m x false)
    (hkk : P.underlying k = some (.int kq)) (ht : P.underlying t = some (.map k e)) (he : P.underlying e = some (.int q)) (hz : ∀ w, (zeroValue e).run P w = .ok (.int q 0) w)
    (hm : a.eval m = .map (some b)) (y : Int) (hx : a.eval x = .int kq y) (hy : (Lit.int kq y).wf = true)
    (hK : wpList P ops Q rest (a.put o.dst (.int q (f y))) w) : wpList P ops Q (o :: rest) a w := by
  obtain ⟨fp, ⟨_, D, h1, h2, h3⟩, _⟩ := h.get i hi
  obtain ⟨c, hrun, hat, hwc⟩ := h1.lookup_int (int_keyed hkk) ht he (hz w) (keyOf_int_mk hkk hy)
  rw [h3 y] at hat
  have : f y = c := by injection hat with hc; injection hc
  unfold wpList
  rw [if_pos hw]
  refine .inl ?_
  unfold Oper.wp
  simp [execOp, hop, hm, hx, hrun, Result.andThen]
  rw [← this]; exact hK
theorem wpList_update_sep (h : Sep w0 w Ts) (i : Nat) (hi : Ts[i]? = some (mapT P k e kq q b n f)) (hg : o.guard = none) (m x v : Operand) (t : TypeId) (hop : o.op = Op.mapUpdate t m x v)
    (hkk : P.underlying k = some (.int kq)) (ht : P.underlying t = some (.map k e)) (he : P.underlying e = some (.int q))
    (hm : a.eval m = .map (some b)) (y : Int) (hx : a.eval x = .int kq y) (hy : (Lit.int kq y).wf = true) (u : Int) (hv : a.eval v = .int q u) (hu : (Lit.int q u).wf = true) (hn : n < maxLen)
    (hK : ∀ w', Sep w0 w' (Ts.set i (mapT P k e kq q b (n + 1) (fun z => if z = y then u else f z))) → Fr [b] w w' → wpList P ops Q rest (a.put o.dst undef) w') : wpList P ops Q (o :: rest) a w := by
  obtain ⟨fp, ⟨hfp, D, h1, h2, h3⟩, _, hset⟩ := h.get i hi
  refine wpList_mapUpdate_own w hg m x v t hop k e (int_keyed hkk) ht _ b n D hm h1 hn _ _ _ hx hv (keyOf_int_mk hkk hy) _ [] (plainElem_int he hu) fun w' h1' hgr => ?_
  have hfr : Fr [b] w w' := (Fr.refl [b] w).grown hgr (fun k e => .inl (by simpa using e.symm))
  refine hK w' (hset _ w' [b] ⟨rfl, _, h1', h2.put _ _, fun z => ?_⟩ (by rw [hfp]; exact hfr) (fun k hk => .inl (by rw [hfp]; exact hk))) hfr
  dsimp only
  by_cases e : z = y
  · subst e
    rw [if_pos rfl]
    exact atKey_put_same h2 (by first | exact ⟨_, _, rfl⟩ | exact trivial | simp [WideAt.IsKeyLit]) _ _
  · rw [if_neg e, atKey_put_other (by simp; exact e), h3]
end
end Go.Tum
end

/- A map whose keys are counted (from XHmany0: never import both). -/
section
set_option linter.unusedSimpArgs false
set_option linter.unusedVariables false
namespace Go.Tum
open Go.RowKit Go.Maps
/-- Block b: a map from numbers of the kind kq to numbers of the kind q: f; n keys, at most k entries: just where f isn't 0. -/
def cntT (P : Program) (k e : TypeId) (kq q : IntKind) (b : Nat) (K : List Int) (f : Int → Int) : Thing where
  P w fp := fp = [b] ∧ ∃ D : DataW Unit, w.ownsMap P k (plainElem P e) b K.length D ∧ Tidy D ∧ size D = K.length ∧ (∀ x, has D (.int kq x) = decide (x ∈ K)) ∧ ∀ x, D.atKey (.int kq x) (.lit (.int q 0)) = .lit (.int q (f x))
  fr h f hn := ⟨h.1, by obtain ⟨D, h1, h2⟩ := h.2; exact ⟨D, ownsMap_fr h1 f (hn _ (by simp [h.1])), h2⟩⟩
  lt h := by rw [h.1]; obtain ⟨D, h1, _⟩ := h.2; simpa using h1.lt
theorem Sep.cntNew {w0 w : World} {Ts : List Thing} (h : Sep w0 w Ts) (P : Program) (k e : TypeId) (kq q : IntKind) : Sep w0 (w.alloc (.map #[] 0)) (cntT P k e kq q w.heap.size [] (fun _ => 0) :: Ts) :=
  h.push ((Fr.refl [] w).alloc _) (fp := [w.heap.size]) ⟨rfl, _, World.ownsMap_made w P k _, tidy_empty, rfl, fun x => rfl, fun x => rfl⟩ (by simp)
section
variable {P : Program} {ops : Array Oper} {rest : List Oper} {o : Oper} {a : Act} {w w0 : World} {Q : Exit → Act → World → Prop} {Ts : List Thing} {k e : TypeId} {kq q : IntKind} {b : Nat} {K : List Int} {f : Int → Int}
theorem wpList_lookup_cnt (h : Sep w0 w Ts) (i : Nat) (hi : Ts[i]? = some (cntT P k e kq q b K f)) (hw : Region.wanted o (yielded ops a.tmps) = true) (m x : Operand) (t : TypeId) (hop : o.op = Op.lookup t m x false)
    (hkk : P.underlying k = some (.int kq)) (ht : P.underlying t = some (.map k e)) (he : P.underlying e = some (.int q)) (hz : ∀ w, (zeroValue e).run P w = .ok (.int q 0) w)
    (hm : a.eval m = .map (some b)) (y : Int) (hx : a.eval x = .int kq y) (hy : (Lit.int kq y).wf = true)
    (hK : wpList P ops Q rest (a.put o.dst (.int q (f y))) w) : wpList P ops Q (o :: rest) a w := by
  obtain ⟨fp, ⟨_, D, h1, h2, _, _, h3⟩, _⟩ := h.get i hi
  obtain ⟨c, hrun, hat, hwc⟩ := h1.lookup_int (int_keyed hkk) ht he (hz w) (keyOf_int_mk hkk hy)
  rw [h3 y] at hat
  have : f y = c := by injection hat with hc; injection hc
  unfold wpList
  rw [if_pos hw]
  refine .inl ?_
  unfold Oper.wp
  simp [execOp, hop, hm, hx, hrun, Result.andThen]
  rw [← this]; exact hK
theorem wpList_update_cnt (h : Sep w0 w Ts) (i : Nat) (hi : Ts[i]? = some (cntT P k e kq q b K f)) (hg : o.guard = none) (m x v : Operand) (t : TypeId) (hop : o.op = Op.mapUpdate t m x v)
    (hkk : P.underlying k = some (.int kq)) (ht : P.underlying t = some (.map k e)) (he : P.underlying e = some (.int q))
    (hm : a.eval m = .map (some b)) (y : Int) (hx : a.eval x = .int kq y) (hy : (Lit.int kq y).wf = true) (u : Int) (hv : a.eval v = .int q u) (hu : (Lit.int q u).wf = true) (hn : K.length < maxLen)
    (hK : ∀ w', Sep w0 w' (Ts.set i (cntT P k e kq q b (if y ∈ K then K else y :: K) (fun z => if z = y then u else f z))) → Fr [b] w w' → wpList P ops Q rest (a.put o.dst undef) w') : wpList P ops Q (o :: rest) a w := by
  obtain ⟨fp, ⟨hfp, D, h1, h2, hsz, hhas, h3⟩, _, hset⟩ := h.get i hi
  have hkey : WideAt.IsKeyLit (Lit.int kq y) := by first | exact ⟨_, _, rfl⟩ | exact trivial | simp [WideAt.IsKeyLit]
  refine wpList_mapUpdate_own w hg m x v t hop k e (int_keyed hkk) ht _ b _ D hm h1 hn _ _ _ hx hv (keyOf_int_mk hkk hy) _ [] (plainElem_int he hu) fun w' h1' hgr => ?_
  have hfr : Fr [b] w w' := (Fr.refl [b] w).grown hgr (fun k e => .inl (by simpa using e.symm))
  have hsp := size_put (k := Lit.int kq y) h2 (DataW.lit (.int q u))
  rw [hhas y, hsz] at hsp
  have hlen : size (D.put (.int kq y) (.lit (.int q u))) = (if y ∈ K then K else y :: K).length := by
    rw [hsp]
    by_cases hm2 : y ∈ K
    · simp [hm2]
    · simp [hm2]
  refine hK w' (hset _ w' [b] ⟨rfl, _, ?_, h2.put hkey _, hlen, fun z => ?_, fun z => ?_⟩ (by rw [hfp]; exact hfr) (fun k hk => .inl (by rw [hfp]; exact hk))) hfr
  · have hle := h1'.size_le
    rw [hlen] at hle
    obtain ⟨es, clock, hb, F, hs, hD⟩ := h1'
    refine ⟨es, clock, hb, F, ?_, hD⟩
    have : size (D.put (.int kq y) (.lit (.int q u))) = es.size := by rw [hD]; simp [size, length_sorted]
    omega
  · by_cases e : z = y
    · subst e
      rw [has_put_same h2.isMap hkey]
      by_cases hm2 : z ∈ K <;> simp [hm2]
    · rw [has_put_other (by simp; exact e), hhas z]
      by_cases hm2 : y ∈ K <;> simp [hm2, e]
  · dsimp only
    by_cases e : z = y
    · subst e
      rw [if_pos rfl]
      exact atKey_put_same h2.isMap hkey _ _
    · rw [if_neg e, atKey_put_other (by simp; exact e), h3]
theorem wpList_len_cnt (h : Sep w0 w Ts) (i : Nat) (hi : Ts[i]? = some (cntT P k e kq q b K f)) (hg : o.guard = none) (m : Operand) (t : TypeId) (hop : o.op = Op.call { callee := Callee.builtin Builtin.len, args := #[m], argTypes := #[t] })
    (ht : P.underlying t = some (.map k e)) (hm : a.eval m = .map (some b)) (hK : wpList P ops Q rest (a.put o.dst (.int .i64 (K.length : Int))) w) : wpList P ops Q (o :: rest) a w := by
  obtain ⟨fp, ⟨_, D, h1, _, hsz, _, _⟩, _⟩ := h.get i hi
  refine wpList_len_own w hg m t hop k e ht _ b _ D hm h1 ?_
  rw [hsz]; exact hK
theorem cnt_len (h : Sep w0 w Ts) (i : Nat) (hi : Ts[i]? = some (cntT P k e kq q b K f)) {t : TypeId} (ht : P.underlying t = some (.map k e)) (ty : TypeId) : (Builtin.len_ #[t] ty #[.map (some b)]).run P w = .ok (.int .i64 (K.length : Int)) w := by
  obtain ⟨fp, ⟨_, D, h1, _, hsz, _, _⟩, _⟩ := h.get i hi
  have := h1.len ht ty
  rwa [hsz] at this
theorem cnt_look (h : Sep w0 w Ts) (i : Nat) (hi : Ts[i]? = some (cntT P k e kq q b K f)) {t : TypeId} (hkk : P.underlying k = some (.int kq)) (ht : P.underlying t = some (.map k e)) (he : P.underlying e = some (.int q)) (hz : ∀ w, (zeroValue e).run P w = .ok (.int q 0) w)
    (y : Int) (hy : (Lit.int kq y).wf = true) : (Instr.lookup t (.map (some b)) (.int kq y) false).run P w = .ok (.int q (f y)) w := by
  obtain ⟨fp, ⟨_, D, h1, h2, _, _, h3⟩, _⟩ := h.get i hi
  obtain ⟨c, hrun, hat, hwc⟩ := h1.lookup_int (int_keyed hkk) ht he (hz w) (keyOf_int_mk hkk hy)
  rw [h3 y] at hat
  have : f y = c := by injection hat with hc; injection hc
  rw [this]; exact hrun
end
end Go.Tum
end
