/- Several threads that do one transaction, all together; plain. And things in a row of unknown length; a map whose keys are counted. -/
import Derived.Test.YtccioehckfdjdaaHright
import Derived.Maps.OwnSet
set_option linter.unusedSimpArgs false
set_option linter.unusedVariables false
namespace Go.Tum
open Go.RowKit Go.Maps
/-- One of them, brought to the front and laid back turned. -/
theorem Sep.snoc {w0 w : World} {T : Thing} {Ts : List Thing} (h : Sep w0 w (T :: Ts)) : Sep w0 w (Ts ++ [T]) := by
  have e : (Ts ++ [T]).eraseIdx Ts.length = Ts := by
    rw [List.eraseIdx_append_of_length_le (Nat.le_refl _)]; simp
  have h2 : Sep w0 w (T :: (Ts ++ [T]).eraseIdx Ts.length) := by rw [e]; exact h
  have h3 := Sep.back Ts.length (by simp) h2
  rwa [show (Ts ++ [T]).set Ts.length T = Ts ++ [T] by rw [List.set_append_right _ _ (Nat.le_refl _)]; simp] at h3
def rowOf (n : Nat) (F : Nat → Thing) : List Thing := (List.range n).map F
theorem rowOf_get {n : Nat} {F : Nat → Thing} {t : Nat} (h : t < n) : (rowOf n F)[t]? = some (F t) := by
  unfold rowOf; simp [List.getElem?_range h]
theorem rowOf_length (n : Nat) (F : Nat → Thing) : (rowOf n F).length = n := by unfold rowOf; simp
theorem rowOf_succ (n : Nat) (F : Nat → Thing) : rowOf (n + 1) F = rowOf n F ++ [F n] := by unfold rowOf; rw [List.range_succ]; simp
theorem rowOf_set {n : Nat} {F G : Nat → Thing} {t : Nat} (h : t < n) (hG : ∀ u, u ≠ t → G u = F u) : (rowOf n F).set t (G t) = rowOf n G := by
  apply List.ext_getElem?
  intro i
  by_cases e : t = i
  · subst e
    rw [List.getElem?_set_self (by rw [rowOf_length]; exact h), rowOf_get h]
  · rw [List.getElem?_set_ne e]
    by_cases hi : i < n
    · rw [rowOf_get hi, rowOf_get hi, hG i (fun h => e h.symm)]
    · rw [List.getElem?_eq_none (by rw [rowOf_length]; omega), List.getElem?_eq_none (by rw [rowOf_length]; omega)]
theorem rowOf_congr {n : Nat} {F G : Nat → Thing} (h : ∀ t, t < n → F t = G t) : rowOf n F = rowOf n G := by
  unfold rowOf
  exact List.map_congr_left fun t ht => h t (by simpa using ht)
/-- One of the row, brought to the front. -/
theorem Sep.pullRow {w0 w : World} {Fx : List Thing} {n : Nat} {G : Nat → Thing} (h : Sep w0 w (Fx ++ rowOf n G)) {t : Nat} (ht : t < n) : Sep w0 w (G t :: (Fx ++ (rowOf n G).eraseIdx t)) := by
  have h2 := h.pull (Fx.length + t) (T := G t) (by rw [List.getElem?_append_right (by omega), Nat.add_sub_cancel_left, rowOf_get ht])
  rwa [List.eraseIdx_append_of_length_le (by omega), Nat.add_sub_cancel_left] at h2
theorem Sep.backRow {w0 w : World} {Fx : List Thing} {n : Nat} {G G' : Nat → Thing} {t : Nat} (ht : t < n) (hG : ∀ u, u ≠ t → G' u = G u) (h : Sep w0 w (G' t :: (Fx ++ (rowOf n G).eraseIdx t))) : Sep w0 w (Fx ++ rowOf n G') := by
  have e : (Fx ++ rowOf n G).eraseIdx (Fx.length + t) = Fx ++ (rowOf n G).eraseIdx t := by rw [List.eraseIdx_append_of_length_le (by omega), Nat.add_sub_cancel_left]
  rw [← e] at h
  have h2 := Sep.back (Fx.length + t) (by rw [List.length_append, rowOf_length]; omega) h
  rwa [List.set_append_right _ _ (by omega), Nat.add_sub_cancel_left, rowOf_set ht hG] at h2
/-- A new thing comes to stand at the row's end. -/
theorem Sep.growRow {w0 w : World} {Fx : List Thing} {n : Nat} {G G' : Nat → Thing} {T : Thing} (h : Sep w0 w (T :: (Fx ++ rowOf n G))) (hG : ∀ u, u < n → G' u = G u) (hT : G' n = T) : Sep w0 w (Fx ++ rowOf (n + 1) G') := by
  have h2 := h.snoc
  rw [List.append_assoc] at h2
  rw [rowOf_succ, rowOf_congr hG, hT]
  exact h2
/-- An empty slice, just made. -/
theorem Sep.emptyRow {w0 w : World} {R : List Thing} (h : Sep w0 w R) (e : TypeId) (size : Nat) : Sep w0 (w.alloc (.cells #[] e)) (rowT 0 e size (.slice (some ⟨w.heap.size, 0, none⟩) 0 0) 0 [] :: R) :=
  h.fresh ⟨(Fr.refl [] w).alloc _, [w.heap.size], ⟨rfl, World.ownsRow_made w #[] 0 (Nat.zero_le _) (by unfold maxLen; omega) (by simp)⟩, by simp⟩
/-- Block b: a map from numbers of the kind kq to numbers of the kind q: f; n keys, at most k entries: just where f isn't 0. -/
def cntT (P : Program) (k e : TypeId) (kq q : IntKind) (b : Nat) (K : List Int) (f : Int → Int) : Thing where
  P w fp := fp = [b] ∧ ∃ D : DataW Unit, w.ownsMap P k (plainElem P e) b K.length D ∧ Tidy D ∧ size D = K.length ∧ (∀ x, has D (.int kq x) = decide (x ∈ K)) ∧ ∀ x, D.atKey (.int kq x) (.lit (.int q 0)) = .lit (.int q (f x))
  fr h f hn := ⟨h.1, by obtain ⟨D, h1, h2⟩ := h.2; exact ⟨D, ownsMap_fr h1 f (hn _ (by simp [h.1])), h2⟩⟩
  lt h := by rw [h.1]; obtain ⟨D, h1, _⟩ := h.2; simpa using h1.lt
theorem Sep.cntNew {w0 w : World} {Ts : List Thing} (h : Sep w0 w Ts) (P : Program) (k e : TypeId) (kq q : IntKind) : Sep w0 (w.alloc (.map #[] 0)) (cntT P k e kq q w.heap.size [] (fun _ => 0) :: Ts) :=
  h.push ((Fr.refl [] w).alloc _) (fp := [w.heap.size]) ⟨rfl, _, World.ownsMap_made w P k _, tidy_empty, rfl, fun x => rfl, fun x => rfl⟩ (by simp)
section
variable {P : Program} {ops : Array Oper} {rest : List Oper} {o : Oper} {a : Act} {w w0 : World} {Q : Exit → Act → World → Prop} {Ts : List Thing} {k e : TypeId} {kq q : IntKind} {b : Nat} {K : List Int} {f : Int → Int}
theorem wpList_lookup_cnt (h : Sep w0 w Ts) (i : Nat) (hi : Ts[i]? = some (cntT P k e kq q b K f)) (hw : Region.wanted o (yielded ops a.tmps) = true) (m x : Operand) (t : TypeId) (hop : o.op = Op.lookup t m x false)
    (hkk : P.underlying k = some (.int kq)) (ht : P.underlying t = some (.map k e)) (he : P.underlying e = some (.int q)) (hz : ∀ w, (zeroValue e).run P w = .ok (.int q 0) w)
    (hm : a.eval m = .map (some b)) (y : Int) (hx : a.eval x = .int kq y) (hy : (Lit.int kq y).wf = true)
    (hK : wpList P ops Q rest (a.put o.dst (.int q (f y))) w) : wpList P ops Q (o :: rest) a w := by
  obtain ⟨fp, ⟨_, D, h1, h2, _, _, h3⟩, _⟩ := h.get i hi
  obtain ⟨c, hrun, hat, hwc⟩ := h1.lookup_int (int_keyed hkk) ht he (hz w) (keyOf_int_mk hkk hy)
  rw [h3 y] at hat
  have : f y = c := by injection hat with hc; injection hc
  unfold wpList
  rw [if_pos hw]
  refine .inl ?_
  unfold Oper.wp
  simp [execOp, hop, hm, hx, hrun, Result.andThen]
  rw [← this]; exact hK
theorem wpList_update_cnt (h : Sep w0 w Ts) (i : Nat) (hi : Ts[i]? = some (cntT P k e kq q b K f)) (hg : o.guard = none) (m x v : Operand) (t : TypeId) (hop : o.op = Op.mapUpdate t m x v)
    (hkk : P.underlying k = some (.int kq)) (ht : P.underlying t = some (.map k e)) (he : P.underlying e = some (.int q))
    (hm : a.eval m = .map (some b)) (y : Int) (hx : a.eval x = .int kq y) (hy : (Lit.int kq y).wf = true) (u : Int) (hv : a.eval v = .int q u) (hu : (Lit.int q u).wf = true) (hn : K.length < maxLen)
    (hK : ∀ w', Sep w0 w' (Ts.set i (cntT P k e kq q b (if y ∈ K then K else y :: K) (fun z => if z = y then u else f z))) → Fr [b] w w' → wpList P ops Q rest (a.put o.dst undef) w') : wpList P ops Q (o :: rest) a w := by
  obtain ⟨fp, ⟨hfp, D, h1, h2, hsz, hhas, h3⟩, _, hset⟩ := h.get i hi
  have hkey : WideAt.IsKeyLit (Lit.int kq y) := by first | exact ⟨_, _, rfl⟩ | exact trivial | simp [WideAt.IsKeyLit]
  refine wpList_mapUpdate_own w hg m x v t hop k e (int_keyed hkk) ht _ b _ D hm h1 hn _ _ _ hx hv (keyOf_int_mk hkk hy) _ [] (plainElem_int he hu) fun w' h1' hgr => ?_
  have hfr : Fr [b] w w' := (Fr.refl [b] w).grown hgr (fun k e => .inl (by simpa using e.symm))
  have hsp := size_put (k := Lit.int kq y) h2 (DataW.lit (.int q u))
  rw [hhas y, hsz] at hsp
  have hlen : size (D.put (.int kq y) (.lit (.int q u))) = (if y ∈ K then K else y :: K).length := by
    rw [hsp]
    by_cases hm2 : y ∈ K
    · simp [hm2]
    · simp [hm2]
  refine hK w' (hset _ w' [b] ⟨rfl, _, ?_, h2.put hkey _, hlen, fun z => ?_, fun z => ?_⟩ (by rw [hfp]; exact hfr) (fun k hk => .inl (by rw [hfp]; exact hk))) hfr
  · have hle := h1'.size_le
    rw [hlen] at hle
    obtain ⟨es, clock, hb, F, hs, hD⟩ := h1'
    refine ⟨es, clock, hb, F, ?_, hD⟩
    have : size (D.put (.int kq y) (.lit (.int q u))) = es.size := by rw [hD]; simp [size, length_sorted]
    omega
  · by_cases e : z = y
    · subst e
      rw [has_put_same h2.isMap hkey]
      by_cases hm2 : z ∈ K <;> simp [hm2]
    · rw [has_put_other (by simp; exact e), hhas z]
      by_cases hm2 : y ∈ K <;> simp [hm2, e]
  · dsimp only
    by_cases e : z = y
    · subst e
      rw [if_pos rfl]
      exact atKey_put_same h2.isMap hkey _ _
    · rw [if_neg e, atKey_put_other (by simp; exact e), h3]
theorem wpList_len_cnt (h : Sep w0 w Ts) (i : Nat) (hi : Ts[i]? = some (cntT P k e kq q b K f)) (hg : o.guard = none) (m : Operand) (t : TypeId) (hop : o.op = Op.call { callee := Callee.builtin Builtin.len, args := #[m], argTypes := #[t] })
    (ht : P.underlying t = some (.map k e)) (hm : a.eval m = .map (some b)) (hK : wpList P ops Q rest (a.put o.dst (.int .i64 (K.length : Int))) w) : wpList P ops Q (o :: rest) a w := by
  obtain ⟨fp, ⟨_, D, h1, _, hsz, _, _⟩, _⟩ := h.get i hi
  refine wpList_len_own w hg m t hop k e ht _ b _ D hm h1 ?_
  rw [hsz]; exact hK
end
end Go.Tum
namespace Go.Tum.H
open Go.Tum.Y Go.Tum.Sc Go.Tum.C Go.Proofs.Ytccioehckfdjdaa
def upd (F : Nat → H) (t : Nat) (x : H) : Nat → H := fun u => if u = t then x else F u
theorem upd_same (F : Nat → H) (t : Nat) (x : H) : upd F t x t = x := if_pos rfl
theorem upd_other (F : Nat → H) {t u : Nat} (x : H) (h : u ≠ t) : upd F t x u = F u := if_neg h
/-- All threads, and the memory. -/
structure All (c : Cfg) (owner seq : Int) (L : List (Int × Int)) (B m : M) (F : Nat → H) : Prop where
  mem : MOk c owner seq L B m
  thr : ∀ t : Nat, (t : Int) < c.t → TOk c owner seq L B m (F t)
  tr : TrOk c owner seq m
  evs : ∀ e ∈ m.trace, 0 ≤ e.op.a ∧ e.op.a < size c
section
variable {c : Cfg} {owner seq : Int} {L : List (Int × Int)} {B m : M} {F : Nat → H}
theorem All.step (J : Job c owner seq L B) (A : All c owner seq L B m F) {t : Nat} (ht : (t : Int) < c.t) (h8 : (F t).next ≠ 8) {o : Op6} (ho : op6 (ask c t owner seq (F t)).1 = o) :
    All c owner seq L B (m.step t o) (upd F t (tell c seq (m.told t o).v (m.told t o).s (F t))) ∧ ms L (tell c seq (m.told t o).v (m.told t o).s (F t)) < ms L (F t) ∧ (m.step t o).trace.length = m.trace.length + 1 ∧
      ((0 ≤ (m.told t o).v ∧ (m.told t o).v ≤ 18446744073709551615) ∧ 0 ≤ (m.told t o).s) := by
  have S := step_ok J A.mem (A.thr t ht) (show 0 ≤ (t : Int) ∧ (t : Int) < c.t by omega) h8
  have hd := Stp.down J A.mem (A.thr t ht) h8 S
  rw [ho] at S hd
  refine ⟨⟨S.mem, fun u hu => ?_, S.tr A.tr, fun e he => ?_⟩, hd, step_trace1 S.err, S.val⟩
  · by_cases e : u = t
    · subst e; rw [upd_same]; exact S.thr
    · rw [upd_other _ _ e]; exact (A.thr u hu).le J S.le
  · unfold M.step at he
    rw [if_pos S.err] at he
    rcases List.mem_append.1 he with h | h
    · exact A.evs e h
    · obtain rfl : e = _ := by simpa using h
      obtain ⟨_, _, _, _, a0, a1⟩ := err_zero S.err
      rw [A.mem.len] at a1
      show 0 ≤ o.a ∧ o.a < size c
      omega
/-- A thread's next step, if it has one. -/
def stM (c : Cfg) (owner seq : Int) (m : M) (F : Nat → H) (t : Nat) : M := if (F t).next = 8 then m else m.step t (op6 (ask c t owner seq (F t)).1)
def stF (c : Cfg) (owner seq : Int) (m : M) (F : Nat → H) (t : Nat) : Nat → H :=
  if (F t).next = 8 then F else upd F t (tell c seq (m.told t (op6 (ask c t owner seq (F t)).1)).v (m.told t (op6 (ask c t owner seq (F t)).1)).s (F t))
theorem All.st (J : Job c owner seq L B) (A : All c owner seq L B m F) {t : Nat} (ht : (t : Int) < c.t) :
    All c owner seq L B (stM c owner seq m F t) (stF c owner seq m F t) ∧ (stM c owner seq m F t).trace.length ≤ m.trace.length + 1 ∧ ((F t).next ≠ 8 → ms L (stF c owner seq m F t t) < ms L (F t)) ∧ ∀ u, u ≠ t → stF c owner seq m F t u = F u := by
  unfold stM stF
  by_cases h8 : (F t).next = 8
  · rw [if_pos h8, if_pos h8]
    exact ⟨A, by omega, fun h => absurd h8 h, fun _ _ => rfl⟩
  · rw [if_neg h8, if_neg h8]
    obtain ⟨h1, h2, h3, _⟩ := A.step J ht h8 rfl
    exact ⟨h1, by omega, fun _ => by rw [upd_same]; exact h2, fun u hu => upd_other _ _ hu⟩
/-- What the memory is to be. -/
def wantK (B : M) (seq : Int) (L : List (Int × Int)) : Nat → M
  | 0 => B
  | k + 1 => M.put (wantK B seq L k) (L.getD k (0, 0)).1 ((L.getD k (0, 0)).2, seq)
def wantM (c : Cfg) (owner seq : Int) (B : M) (L : List (Int × Int)) : M := M.put (wantK B seq L L.length) (place c 4 owner 0) (0, seq)
theorem wantK_len (B : M) (seq : Int) (L : List (Int × Int)) : ∀ k, (wantK B seq L k).cells.length = B.cells.length
  | 0 => rfl
  | k + 1 => by unfold wantK; rw [put_len]; exact wantK_len B seq L k
theorem wantK_rd (J : Job c owner seq L B) (hB : B.cells.length = (size c).toNat) (hD : Dist L) (b : Int) (hb : 0 ≤ b) : ∀ k, k ≤ L.length →
    ((∀ j (hj : j < L.length), j < k → L[j].1 ≠ b) → rd (wantK B seq L k) b = rd B b) ∧ ∀ j (hj : j < L.length), j < k → L[j].1 = b → rd (wantK B seq L k) b = (L[j].2, seq)
  | 0, _ => ⟨fun _ => rfl, fun j _ h => by omega⟩
  | k + 1, hk => by
    have ih := wantK_rd J hB hD b hb k (by omega)
    have hgd : L.getD k (0, 0) = L[k] := by simp [List.getD_eq_getElem?_getD, List.getElem?_eq_getElem (show k < L.length by omega)]
    have hE := J.ent _ (List.getElem_mem (show k < L.length by omega))
    have hT := (bds J.ok).tag
    have hr : rd (wantK B seq L (k + 1)) b = if b = L[k].1 then (L[k].2, seq) else rd (wantK B seq L k) b := by
      show rd (M.put (wantK B seq L k) (L.getD k (0, 0)).1 ((L.getD k (0, 0)).2, seq)) b = _
      rw [hgd, rd_put (by rw [wantK_len]; omega) hb]
    rw [hr]
    refine ⟨fun h => ?_, fun j hj hjk e => ?_⟩
    · rw [if_neg (fun e => h k (by omega) (by omega) e.symm)]
      exact ih.1 fun j hj hjk => h j hj (by omega)
    · by_cases ej : j = k
      · subst ej; rw [if_pos e.symm]
      · rw [if_neg (fun e2 => hD k j (by omega) hj (by omega) (e.trans e2))]
        exact ih.2 j hj (by omega) e
theorem All.same (J : Job c owner seq L B) (hB : B.cells.length = (size c).toNat) (hD : Dist L) (A : All c owner seq L B m F) (h8 : ∀ t : Nat, (t : Int) < c.t → (F t).next = 8) (b : Int) (hb : 0 ≤ b) (hb2 : b < size c) (hs : (whA c b).1 ≠ 3) :
    rd m b = rd (wantM c owner seq B L) b := by
  have ht := J.ok.t1
  have ho := (A.thr 0 (by omega)).over (h8 0 (by omega))
  have hf := A.mem.final J ho
  have i4 := (is_own J.ok J.own).2.1
  have l4 := J.low i4 (by decide)
  have hsz := (wh_place J.ok i4).2.2
  unfold wantM
  rw [rd_put (by rw [wantK_len, hB]; omega) hb]
  by_cases e4 : b = place c 4 owner 0
  · rw [if_pos e4, e4]; exact ho
  rw [if_neg e4]
  have hw := wantK_rd J hB hD b hb L.length (Nat.le_refl _)
  by_cases hT : fTag c ≤ b
  · rcases A.mem.cell b hT hb2 with h | ⟨⟨e, he, h1⟩, h2⟩
    · by_cases hx : ∃ j, ∃ hj : j < L.length, L[j].1 = b
      · obtain ⟨j, hj, e⟩ := hx
        have h3 := hf _ (List.getElem_mem hj)
        have h4 := J.old b hT hb2
        rw [e] at h3
        rw [← h, h3] at h4
        simp at h4
      · rw [hw.1 (fun j hj _ e => hx ⟨j, hj, e⟩)]; exact h
    · obtain ⟨j, hj, rfl⟩ := List.getElem_of_mem he
      rw [h2, hw.2 j hj hj h1, ← h1, valAt_first hj (fun i hi => hD j i hj (by omega) hi)]
  · rw [hw.1 (fun j hj _ e => by have := (J.ent _ (List.getElem_mem hj)).1; omega)]
    exact A.mem.rest b hb (by omega) hs e4
/-- How often each cell was turned, in the first steps. -/
def swF (tr : List Ev) (k : Nat) (z : Int) : Int := (swapsAt (tr.take k) z : Nat)
theorem swF_succ {tr : List Ev} {k : Nat} (hk : k < tr.length) (z : Int) : swF tr (k + 1) z = if tr[k].op.k = 2 ∧ tr[k].out.ok = true ∧ z = tr[k].op.a then swF tr k z + 1 else swF tr k z := by
  unfold swF swapsAt
  rw [List.take_succ_eq_append_getElem hk, List.countP_append, List.countP_singleton]
  by_cases e : tr[k].op.k = 2 ∧ tr[k].out.ok = true ∧ z = tr[k].op.a
  · rw [if_pos e, if_pos (by simpa using ⟨e.1, e.2.1, e.2.2.symm⟩)]
    simp
  · rw [if_neg e, if_neg (by simp only [decide_eq_true_eq]; exact fun h => e ⟨h.1, h.2.1, h.2.2.symm⟩)]
    simp
theorem swF_le (tr : List Ev) (k : Nat) (z : Int) : 0 ≤ swF tr k z ∧ swF tr k z ≤ k := by
  unfold swF swapsAt
  have h1 : (tr.take k).countP (fun e => decide (e.op.k = 2 ∧ e.out.ok = true ∧ e.op.a = z)) ≤ (tr.take k).length := List.countP_le_length
  have h2 : (tr.take k).length ≤ k := by rw [List.length_take]; omega
  omega
/-- The keys: unlike, and just those that were turned. -/
def Keys (K : List Int) (f : Int → Int) : Prop := K.Nodup ∧ ∀ z, z ∈ K ↔ f z ≠ 0
theorem Keys.next {tr : List Ev} {k : Nat} (hk : k < tr.length) {K : List Int} (h : Keys K (swF tr k)) (he : tr[k].op.k = 2 ∧ tr[k].out.ok = true) : Keys (if tr[k].op.a ∈ K then K else tr[k].op.a :: K) (swF tr (k + 1)) := by
  have hz := fun z => swF_succ hk z
  have hl := fun z => swF_le tr k z
  by_cases hm : tr[k].op.a ∈ K
  · rw [if_pos hm]
    refine ⟨h.1, fun z => ?_⟩
    rw [hz z, h.2 z]
    by_cases e : z = tr[k].op.a
    · rw [if_pos ⟨he.1, he.2, e⟩]
      have := (h.2 z).1 (e ▸ hm)
      have := hl z
      omega
    · rw [if_neg (fun h => e h.2.2)]
  · rw [if_neg hm]
    refine ⟨List.nodup_cons.2 ⟨hm, h.1⟩, fun z => ?_⟩
    rw [hz z, List.mem_cons, h.2 z]
    by_cases e : z = tr[k].op.a
    · rw [if_pos ⟨he.1, he.2, e⟩]
      have := hl z
      simp only [e, true_or, true_iff]
      rw [e] at this
      omega
    · rw [if_neg (fun h => e h.2.2)]
      simp [e]
theorem Keys.stay {tr : List Ev} {k : Nat} (hk : k < tr.length) {K : List Int} (h : Keys K (swF tr k)) (he : ¬ (tr[k].op.k = 2 ∧ tr[k].out.ok = true)) : swF tr (k + 1) = swF tr k := by
  funext z
  rw [swF_succ hk z, if_neg (fun h => he ⟨h.1, h.2.1⟩)]
theorem All.once (J : Job c owner seq L B) (A : All c owner seq L B m F) (h8 : ∀ t : Nat, (t : Int) < c.t → (F t).next = 8) : ∀ e ∈ L, swF m.trace m.trace.length e.1 = 1 := fun e he => by
  have ht := J.ok.t1
  have ho := (A.thr 0 (by omega)).over (h8 0 (by omega))
  have hf := A.mem.final J ho e he
  have hE := J.ent e he
  have := (A.tr e.1).1 (.inl ⟨hE.1, hE.2.1, by rw [hf]⟩)
  unfold swF
  rw [List.take_of_length_le (Nat.le_refl _), this]; rfl
theorem All.count (J : Job c owner seq L B) (hD : Dist L) (A : All c owner seq L B m F) (h8 : ∀ t : Nat, (t : Int) < c.t → (F t).next = 8) {K : List Int} (hK : Keys K (swF m.trace m.trace.length)) : K.length = L.length + 1 := by
  have ht := J.ok.t1
  have ho := (A.thr 0 (by omega)).over (h8 0 (by omega))
  have hf := A.mem.final J ho
  have i4 := (is_own J.ok J.own).2.1
  have l4 := J.low i4 (by decide)
  have hn : (place c 4 owner 0 :: L.map (·.1)).Nodup := by
    refine List.nodup_cons.2 ⟨fun hm => ?_, ?_⟩
    · obtain ⟨e, he, h1⟩ := List.mem_map.1 hm
      have := (J.ent e he).1
      omega
    · unfold List.Nodup
      rw [List.pairwise_iff_getElem]
      intro i j hi hj hij
      simp only [List.getElem_map]
      exact hD j i (by simpa using hj) (by simpa using hi) hij
  have hp : K.Perm (place c 4 owner 0 :: L.map (·.1)) := by
    refine (List.perm_ext_iff_of_nodup hK.1 hn).2 fun z => ?_
    rw [hK.2 z]
    unfold swF
    rw [List.take_of_length_le (Nat.le_refl _)]
    have hz := A.tr z
    have hturn : Turned c owner seq m z ↔ z ∈ place c 4 owner 0 :: L.map (·.1) := by
      unfold Turned
      rw [List.mem_cons, List.mem_map]
      constructor
      · rintro (⟨h1, h2, h3⟩ | ⟨h1, _⟩)
        · rcases A.mem.cell z h1 h2 with h | ⟨⟨e, he, h4⟩, _⟩
          · have := J.old z h1 h2
            rw [h] at h3; omega
          · exact .inr ⟨e, he, h4⟩
        · exact .inl h1
      · rintro (rfl | ⟨e, he, rfl⟩)
        · exact .inr ⟨rfl, ho⟩
        · have hE := J.ent e he
          exact .inl ⟨hE.1, hE.2.1, by rw [hf e he]⟩
    rw [← hturn]
    by_cases hx : Turned c owner seq m z
    · simp [hx, hz.1 hx]
    · simp [hx, hz.2 hx]
  rw [hp.length_eq]
  simp
/-- From the beginning. -/
theorem all_start (hok : Ok c) (hf : 0 ≤ c.fi) (ho : 0 ≤ owner ∧ owner < c.t) (hr : Right c L) (hs : 1 ≤ seq) (F : Nat → H) (hF : ∀ t : Nat, (t : Int) < c.t → F t = Go.Proofs.Ytccioehckfdjdaa.H.hNew ∨ F t = Go.Proofs.Ytccioehckfdjdaa.H.hOwn c L) :
    All c owner seq L (laidM c owner seq L) (laidM c owner seq L) F := by
  have J := laid_job hok hf ho hr hs
  refine ⟨laid_mok hok hf ho hr hs (laid_len c owner seq L) (fun a _ => rfl), fun t ht => ?_, laid_trok hok hf ho hr hs, fun e he => by rw [laid_tr] at he; cases he⟩
  rcases hF t ht with h | h
  · rw [h]; exact tok_new J _
  · rw [h]; exact tok_own J _
theorem ms_start {m : M} (J : Job c owner seq L B) {h : H} (ht : TOk c owner seq L B m h) : (ms L h).toNat ≤ 5 * L.length + 3 := by
  have := ht.most; have := ht.nn; omega
end
end Go.Tum.H
