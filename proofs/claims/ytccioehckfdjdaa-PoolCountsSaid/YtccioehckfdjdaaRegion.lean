/- A region that draws its order, taken in one order of one's own: reads first, then what writes. -/
import Derived.Test.YtccioehckfdjdaaBase
import Derived.OrdersHeld
import Derived.Deep.QuietTactic
import Derived.BigQuiet
import Derived.Deep.RegionHeld3
import Derived.StillTailTactics
namespace Go.Tum
open Go.RowKit

/-- An operation that hands back a value and nothing else. -/
def softOp : Op → Bool
  | .move _ | .assign _ | .pick .. | .build .. | .load .. | .nilCheck _ | .binOp .. | .unOp .. | .convert .. | .slice .. | .fieldAddr .. | .field .. | .indexAddr .. | .index .. | .extract .. => true
  | .call { callee := .builtin .len, .. } | .call { callee := .builtin .cap, .. } | .call { callee := .builtin .min, .. } | .call { callee := .builtin .max, .. } => true
  | _ => false

theorem value_of_andThen {w' : World} {n : Next} (r : Result Value) (h : (r.andThen fun a w' => Result.ok (Next.value a) w') = Result.ok n w') : ∃ v, n = .value v := by
  cases r with
  | ok v w1 => simp only [Result.andThen_ok] at h; injection h with h1 h2; exact ⟨v, h1.symm⟩
  | halt x w1 => simp only [Result.andThen_halt] at h; cases h

theorem value_of_bind {P : Program} {w w' : World} {n : Next} (s : Sem Value) (h : (do pure (.value (← s)) : Sem Next).run P w = .ok n w') : ∃ v, n = .value v := by
  rw [Sem.run_bind] at h
  cases hs : s.run P w with
  | ok v w1 => rw [hs] at h; simp only [Result.andThen_ok, Sem.run_pure] at h; injection h with h1 h2; exact ⟨v, h1.symm⟩
  | halt x w1 => rw [hs] at h; simp only [Result.andThen_halt] at h; cases h

def OnlyValues (P : Program) (s : Sem Next) : Prop := ∀ w n w', s.run P w = .ok n w' → ∃ v, n = .value v
theorem OnlyValues.bind {P : Program} {α : Type} {x : Sem α} {f : α → Sem Next} (h : ∀ a, OnlyValues P (f a)) : OnlyValues P (x >>= f) := by
  intro w n w' hr
  rw [Sem.run_bind] at hr
  cases hx : x.run P w with
  | ok a w1 => rw [hx] at hr; simp only [Result.andThen_ok] at hr; exact h a _ _ _ hr
  | halt y w1 => rw [hx] at hr; simp only [Result.andThen_halt] at hr; cases hr
theorem OnlyValues.val {P : Program} (v : Value) : OnlyValues P (pure (.value v)) := by
  intro w n w' h; simp only [Sem.run_pure] at h; injection h with h1 h2; exact ⟨v, h1.symm⟩
theorem OnlyValues.panic {P : Program} : OnlyValues P (runtimePanic .nilDeref) := by
  intro w n w' h; exact absurd h (by simp [runtimePanic])
theorem OnlyValues.ite {P : Program} {c : Prop} [Decidable c] {x y : Sem Next} (hx : OnlyValues P x) (hy : OnlyValues P y) : OnlyValues P (if c then x else y) := by
  split <;> assumption

theorem soft_only (P : Program) (ρ : Operand → Value) (o : Oper) (hs : softOp o.op = true) : OnlyValues P (execOp ρ o) := by
  unfold softOp at hs
  split at hs
  case h_20 => cases hs
  all_goals (rename_i he; unfold execOp; rw [he]; dsimp only)
  case h_6 =>
    split
    · exact .panic
    · exact .panic
    · exact .panic
    · split
      · exact .panic
      · refine .bind fun a => .bind fun b => ?_
        split
        · refine .bind fun _ => .val _
        · exact .val _
      · exact .val _
    · exact .val _
  all_goals first
    | exact .val _
    | exact .bind fun _ => .val _
    | exact .bind fun _ => .ite (.val _) (.val _)
    | (intro w n w' h; simp only [resolve, Sem.run_bind, Sem.run_pure, Result.andThen_ok, invoke, builtin] at h; exact value_of_andThen _ h)

/-- A world in which, of what there was in w0, only the blocks fp may have turned. -/
structure After (fp : List Nat) (w0 : World) where
  wd : World
  fr : Fr fp w0 wd
instance afterNonempty (fp : List Nat) (w0 : World) : Nonempty (After fp w0) := ⟨⟨w0, Fr.refl _ _⟩⟩

section
variable {P : Program} {ops : Array Oper} {Q : Exit → Act → World → Prop}

/-- What the lexical walk shows of a soft operation. -/
theorem yieldsIf_of_quiet {C : World → Prop} {o : Oper} {a : Act} {K : Act → Prop} (hs : softOp o.op = true) (h : if Region.wanted o (yielded ops a.tmps) then o.quiet P a C K else K (a.put o.dst undef)) :
    ∃ v, YieldsIf P ops C o v a ∧ K (a.put o.dst v) := by
  by_cases hw : Region.wanted o (yielded ops a.tmps) = true
  · rw [if_pos hw] at h
    obtain ⟨v, h1, h2⟩ := h
    refine ⟨v, .inl ⟨hw, fun w hC => ?_⟩, h2⟩
    have h3 := h1 w hC
    unfold Oper.quietAt at h3
    cases hr : (execOp a.eval o).run P w with
    | ok n w' =>
      obtain ⟨u, rfl⟩ := soft_only P _ o hs w n w' hr
      rw [hr] at h3
      simp only [Oper.quietUpon] at h3
      rw [h3.1, h3.2]
    | halt x w' => rw [hr] at h3; simp only [Oper.quietUpon] at h3
  · rw [if_neg hw] at h
    exact ⟨undef, .inr ⟨by simpa using hw, rfl⟩, h⟩

/-- The whole goal: runs of operations, by kind: 4 yield in the world as it stands (what writes waits for them), 0 yield in every world, 1 yield in every world of S, 2 one that keeps S, 3 one that need not. -/
def wpSegs (P : Program) (ops : Array Oper) (S : World → Prop) (Q : Exit → Act → World → Prop) : List (Nat × List Oper) → Act → World → Prop
  | [], a, w => Q .normal a w
  | (0, l) :: r, a, w => wpQuiet P ops (fun _ => True) (fun a' => wpSegs P ops S Q r a' w) l a
  | (1, l) :: r, a, w => wpQuiet P ops S (fun a' => wpSegs P ops S Q r a' w) l a
  | (4, l) :: r, a, w => wpQuiet P ops (fun w' => ∃ x : After [] w, w' = x.wd) (fun a' => wpSegs P ops S Q r a' w) l a
  | (2, l) :: r, a, w => wpList P ops (Exit.then (fun a' w' => S w' ∧ wpSegs P ops S Q r a' w') Q) l a w
  | (_, l) :: r, a, w => wpList P ops (Exit.then (wpSegs P ops S Q r) Q) l a w

/-- Down-closed: what is listed has all that it waits for listed. -/
def Closed (ops : Array Oper) (listed : Array Bool) : Prop :=
  ∀ j oj, ops[j]? = some oj → listed.getD j false = true → ∀ e ∈ oj.after, Region.binds .any e = true → listed.getD e.on false = true

theorem Closed.set {listed : Array Bool} (h : Closed ops listed) {i : Nat} (hi : i ∈ Region.ready .any ops listed) : Closed ops (listed.setIfInBounds i true) := by
  obtain ⟨_, oi, hoi, hall⟩ := mem_ready.1 hi
  intro j oj hj hl e he hb
  refine getD_set_true ?_
  by_cases hij : i = j
  · subst hij
    have : oj = oi := Option.some.inj (hj.symm.trans hoi)
    subst this
    exact hall e he hb
  · rw [getD_set_ne false hij] at hl
    exact h j oj hj hl e he hb

/-- j waits for i, in however many steps. -/
def anc (ops : Array Oper) : Nat → Nat → Nat → Bool
  | 0, _, _ => false
  | f + 1, j, i => match ops[j]? with
    | none => false
    | some oj => oj.after.any fun e => Region.binds .any e && (e.on == i || anc ops f e.on i)

theorem anc_listed {listed : Array Bool} (h : Closed ops listed) {i : Nat} : ∀ (f j : Nat), (∀ oj, ops[j]? = some oj → ∀ e ∈ oj.after, Region.binds .any e = true → listed.getD e.on false = true) →
    anc ops f j i = true → listed.getD i false = true
  | 0, _, _, ha => by simp [anc] at ha
  | f + 1, j, hp, ha => by
    unfold anc at ha
    split at ha
    · cases ha
    · rename_i oj hj
      obtain ⟨e, he, hb⟩ := Array.any_eq_true'.1 ha
      simp only [Bool.and_eq_true, Bool.or_eq_true, beq_iff_eq] at hb
      have h1 := hp oj hj e he hb.1
      rcases hb.2 with h2 | h2
      · rw [← h2]; exact h1
      · exact anc_listed h f e.on (fun ok hk e' he' hb' => h e.on ok hk h1 e' he' hb') h2

/-- How operation i counts: 0 and 1 soft, 2 keeps S, 3 need not. -/
def kindOf (segs : List (Nat × List Nat)) (i : Nat) : Nat := ((segs.find? fun s => s.2.contains i).map fun s => if s.1 = 4 then 1 else s.1).getD 3

/-- The order of our own is one that may come up, and the kinds are what they say. -/
def chkRun (ops : Array Oper) (kd : Nat → Nat) (t : Nat) : List Nat → Array Bool → (Array Bool → Bool) → Bool
  | [], listed, k => k listed
  | i :: r, listed, k =>
    (match ops[i]? with
      | none => false
      | some oi =>
        if t ≤ 1 ∨ t = 4 then
          kd i ≤ 1 && softOp oi.op && (Region.ready .any ops listed).contains i && Region.free .any ops listed i &&
            (t == 0 || (List.range ops.size).all fun j => listed.getD j true || decide (kd j ≤ if t = 4 then 1 else 2) || anc ops ops.size j i)
        else kd i == t && Region.ready .any ops listed == [i]) && chkRun ops kd t r (listed.setIfInBounds i true) k
def chkSegs (ops : Array Oper) (kd : Nat → Nat) : Bool → List (Nat × List Nat) → Array Bool → Bool
  | _, [], listed => (Region.ready .any ops listed).isEmpty
  | live, (t, l) :: r, listed =>
    (match t with
      | 0 => true
      | 1 => live
      | 2 => l.length == 1
      | 3 => l.length == 1
      | 4 => true
      | _ => false) && chkRun ops kd t l listed (chkSegs ops kd (if t == 3 then false else if t == 2 then true else live) r)

def nthOp (ops : Array Oper) (i : Nat) : Oper := ops.getD i default

/-- An operation that is soft. -/
def sOp (P : Program) (ops : Array Oper) (i : Nat) (K : Act → World → Prop) (a : Act) (w : World) : Prop :=
  match ops[i]? with
  | none => K a w
  | some o => ∃ v, YieldsIf P ops (· = w) o v a ∧ K (a.put o.dst v) w

/-- Whatever order is picked: soft operations leave the world alone, those of kind 2 keep S. -/
def wpAnyK (P : Program) (ops : Array Oper) (kd : Nat → Nat) (S : World → Prop) (Q : Exit → Act → World → Prop) : Nat → Array Bool → Act → World → Prop
  | 0, listed, a, w => Region.ready .any ops listed = [] ∧ Q .normal a w
  | fuel + 1, listed, a, w =>
    (Region.ready .any ops listed = [] → Q .normal a w) ∧
    ∀ i ∈ Region.ready .any ops listed,
      if kd i ≤ 1 then sOp P ops i (wpAnyK P ops kd S Q fuel (listed.setIfInBounds i true)) a w
      else wpOp P ops Q i (fun a' w' => (kd i = 2 → S w') ∧ wpAnyK P ops kd S Q fuel (listed.setIfInBounds i true) a' w') a w

theorem YieldsIf.weak {C D : World → Prop} {o : Oper} {v : Value} {a : Act} (h : YieldsIf P ops C o v a) (hd : ∀ w, D w → C w) : YieldsIf P ops D o v a :=
  h.imp (fun ⟨hw, hv⟩ => ⟨hw, fun w hw' => hv w (hd w hw')⟩) id

theorem wpAny_of_K {kd : Nat → Nat} {S : World → Prop} : ∀ (fuel : Nat) (listed : Array Bool) (a : Act) (w : World), wpAnyK P ops kd S Q fuel listed a w → wpAny P .any ops Q fuel listed a w
  | 0, _, _, _, h => h
  | fuel + 1, listed, a, w, h => by
    refine ⟨h.1, fun i hi => ?_⟩
    have h2 := h.2 i hi
    split at h2
    · unfold sOp at h2
      unfold wpOp
      cases ho : ops[i]? with
      | none => rw [ho] at h2; exact wpAny_of_K fuel _ _ _ h2
      | some o =>
        rw [ho] at h2
        obtain ⟨v, hy, hk⟩ := h2
        have := hy.wpOp (Q := Q) ho (K := wpAny P .any ops Q fuel (listed.setIfInBounds i true)) (w := w) rfl (wpAny_of_K fuel _ _ _ hk)
        unfold wpOp at this
        rw [ho] at this
        exact this
    · exact wpOp_mono (fun a' w' h3 => wpAny_of_K fuel _ _ _ h3.2) h2

/-- **A soft operation that may come up may be taken first.** -/
theorem wpAnyK_first {kd : Nat → Nat} {S C : World → Prop} {i : Nat} {oi : Oper} {v : Value} (hi : ops[i]? = some oi) (hki : kd i ≤ 1) (hsel : ∀ (j : Nat) (o : Oper) cs b, ops[j]? = some o → o.op ≠ .select cs b)
    (hQ : ∀ c a w, ¬ Q (.panic c) a w) :
    ∀ (fuel : Nat) (listed : Array Bool) (a : Act) (w : World), C w → Closed ops listed →
      (∀ j oj, ops[j]? = some oj → j ≠ i → listed.getD j true = false → (∀ e ∈ oj.after, Region.binds .any e = true → e.on ≠ i) → oi.apart ops oj = true) →
      (∀ j, j < ops.size → listed.getD j true = false → kd j ≤ 1 ∨ (kd j ≤ 2 ∧ ∀ w, S w → C w) ∨ (∀ w, C w) ∨ anc ops ops.size j i = true) →
      i ∈ Region.ready .any ops listed → YieldsIf P ops C oi v a →
      wpAnyK P ops kd S Q fuel (listed.setIfInBounds i true) (a.put oi.dst v) w → wpAnyK P ops kd S Q (fuel + 1) listed a w := by
  intro fuel
  induction fuel with
  | zero =>
    intro listed a w hCw _ _ _ hr hy H
    refine ⟨fun h => (by rw [h] at hr; cases hr), fun j hj => ?_⟩
    by_cases hji : j = i
    · subst hji
      rw [if_pos hki]
      unfold sOp; rw [hi]
      exact ⟨v, YieldsIf.weak hy (fun w' e => e ▸ hCw), H⟩
    · have := ready_mono hj hji
      rw [H.1] at this
      cases this
  | succ fuel ih =>
    intro listed a w hCw hcl hfree hhard hr hy H
    refine ⟨fun h => (by rw [h] at hr; cases hr), fun j hj => ?_⟩
    by_cases hji : j = i
    · subst hji
      rw [if_pos hki]
      unfold sOp; rw [hi]
      exact ⟨v, YieldsIf.weak hy (fun w' e => e ▸ hCw), H⟩
    · have h1 := H.2 j (ready_mono hj hji)
      obtain ⟨hjun, oj, hoj, hall⟩ := mem_ready.1 hj
      have hiun : listed.getD i false = false := by
        have h0 := (mem_ready.1 hr).1
        rcases Nat.lt_or_ge i listed.size with h' | h'
        · simp [h'] at h0 ⊢; exact h0
        · simp [Array.getElem?_eq_none h']
      have hnot : ∀ e ∈ oj.after, Region.binds .any e = true → e.on ≠ i := fun e he hb heq => by
        have h1 := hall e he hb
        rw [heq, hiun] at h1; cases h1
      have hap := hfree j oj hoj hji hjun hnot
      have hfree' : ∀ k ok, ops[k]? = some ok → k ≠ i → (listed.setIfInBounds j true).getD k true = false →
          (∀ e ∈ ok.after, Region.binds .any e = true → e.on ≠ i) → oi.apart ops ok = true := fun k ok hk hki hun hno => by
        refine hfree k ok hk hki ?_ hno
        by_cases hjk : j = k
        · subst hjk; exact hjun
        · rw [getD_set_ne true hjk] at hun; exact hun
      have hhard' : ∀ k, k < ops.size → (listed.setIfInBounds j true).getD k true = false → kd k ≤ 1 ∨ (kd k ≤ 2 ∧ ∀ w, S w → C w) ∨ (∀ w, C w) ∨ anc ops ops.size k i = true := fun k hks hun => by
        refine hhard k hks ?_
        by_cases hjk : j = k
        · subst hjk; exact hjun
        · rw [getD_set_ne true hjk] at hun; exact hun
      have hcl' := hcl.set hj
      have hr' := ready_mono hr (Ne.symm hji)
      split at h1
      · rename_i hkj
        rw [if_pos hkj]
        unfold sOp at h1 ⊢
        rw [hoj] at h1 ⊢
        obtain ⟨u, hu, hn⟩ := h1
        obtain ⟨g1, g2, g3⟩ := Oper.apart_spec hap
        refine ⟨u, hu.of_same (execOp_put oj (fun cs b => hsel j oj cs b hoj) a oi.dst v g1).symm (wanted_put oj a oi.dst v g1).symm, ?_⟩
        refine ih _ _ w hCw hcl' hfree' hhard' hr' (hy.of_same (execOp_put oi (fun cs b => hsel i oi cs b hi) a oj.dst u g3) (wanted_put oi a oj.dst u g3)) ?_
        rw [Array.setIfInBounds_comm _ _ hji, ← Act.put_comm a v u g2]
        exact hn
      · rename_i hkj
        rw [if_neg hkj]
        have h2 := wpOp_putIf hoj hap (fun cs b => hsel i oi cs b hi) (fun cs b => hsel j oj cs b hoj) (fun c a w h => absurd h (hQ c _ w)) hy h1
        refine wpOp_mono (fun a' w' h3 => ⟨h3.2.1, ?_⟩) h2
        have hCw' : C w' := by
          rcases hhard j (Array.getElem?_eq_some_iff.1 hoj).1 hjun with hk1 | ⟨hk2, hC⟩ | hall' | han
          · exact absurd hk1 hkj
          · exact hC _ (h3.2.1 (by omega))
          · exact hall' _
          · have := anc_listed hcl ops.size j (fun ok hk e he hb => by
              have : ok = oj := Option.some.inj (hk.symm.trans hoj)
              subst this
              exact hall e he hb) han
            rw [hiun] at this; cases this
        refine ih (listed.setIfInBounds j true) a' w' hCw' hcl' hfree' hhard' hr' h3.1 ?_
        rw [Array.setIfInBounds_comm _ _ hji]
        exact h3.2.2

def theOps (ops : Array Oper) (segs : List (Nat × List Nat)) : List (Nat × List Oper) := segs.map fun s => (s.1, s.2.map (nthOp ops))
def total (segs : List (Nat × List Nat)) : Nat := segs.foldr (fun s n => s.2.length + n) 0

theorem nthOp_of {i : Nat} {o : Oper} (h : ops[i]? = some o) : nthOp ops i = o := by simp [nthOp, h]

theorem run_sound {kd : Nat → Nat} {S C : World → Prop} {t : Nat} (ht : t ≤ 1 ∨ t = 4) (hQ : ∀ c a w, ¬ Q (.panic c) a w) (hsel : Region.noSelect ops = true) (hC : t ≠ 4 → ∀ w, S w → C w) (hCt : t = 0 → ∀ w, C w) (N : Nat) (k : Array Bool → Bool) (w : World) (hw : C w) (F : Act → Prop)
    (hk : ∀ listed a, k listed = true → Closed ops listed → F a → ∀ fuel, N ≤ fuel → wpAnyK P ops kd S Q fuel listed a w) :
    ∀ (l : List Nat) (listed : Array Bool) (a : Act), chkRun ops kd t l listed k = true → Closed ops listed → wpQuiet P ops C F (l.map (nthOp ops)) a →
      ∀ fuel, l.length + N ≤ fuel → wpAnyK P ops kd S Q fuel listed a w
  | [], listed, a, hc, hcl, h, fuel, hf => hk listed a (by simpa [chkRun] using hc) hcl h fuel (by simpa using hf)
  | i :: r, listed, a, hc, hcl, h, fuel, hf => by
    obtain ⟨fuel, rfl⟩ : ∃ f, fuel = f + 1 := ⟨fuel - 1, by simp at hf; omega⟩
    simp only [chkRun, Bool.and_eq_true] at hc
    obtain ⟨hc1, hc2⟩ := hc
    cases hoi : ops[i]? with
    | none => rw [hoi] at hc1; cases hc1
    | some oi =>
      rw [hoi] at hc1
      simp only [ht, if_true, Bool.and_eq_true, decide_eq_true_eq] at hc1
      obtain ⟨⟨⟨⟨hk1, hs⟩, hr⟩, hfr⟩, hh⟩ := hc1
      simp only [List.map_cons, nthOp_of hoi] at h
      have hr' : i ∈ Region.ready .any ops listed := by simpa using hr
      obtain ⟨v, hy, hK⟩ := yieldsIf_of_quiet hs (show if Region.wanted oi (yielded ops a.tmps) then oi.quiet P a C (wpQuiet P ops C F (r.map (nthOp ops))) else wpQuiet P ops C F (r.map (nthOp ops)) (a.put oi.dst undef) from h)
      have hrec := run_sound ht hQ hsel hC hCt N k w hw F hk r _ _ hc2 (hcl.set hr') hK fuel (by simp at hf; omega)
      refine wpAnyK_first hoi hk1 (Region.noSelect_spec hsel) hQ fuel listed a w hw hcl (Region.free_spec hoi hfr) ?_ hr' hy hrec
      intro j hjs hj
      by_cases h0 : t = 0
      · exact .inr (.inr (.inl (hCt h0)))
      · have : (t == 0) = false := by simpa using h0
        simp only [this, Bool.false_or, List.all_eq_true, List.mem_range] at hh
        have := hh j hjs
        rw [hj] at this
        simp only [Bool.false_or, Bool.or_eq_true, decide_eq_true_eq] at this
        rcases this with h1 | h1
        · by_cases h4 : t = 4
          · rw [if_pos h4] at h1; exact .inl h1
          · rw [if_neg h4] at h1; exact .inr (.inl ⟨h1, hC h4⟩)
        · exact .inr (.inr (.inr h1))

theorem upon_then {o : Oper} {a : Act} {next K : Act → World → Prop} (r : Result Next) (h : o.upon P a next (Exit.then K Q) r) : o.upon P a next Q r := by
  cases r with
  | ok n w' =>
    cases n <;> simp only [Oper.upon] at h ⊢
    case enter f args =>
      refine Calls.mono h fun e w'' he => ?_
      cases e with
      | returned u => exact he
      | panicked c => exact he
      | outgrown => exact he
    all_goals exact h
  | halt x w' =>
    cases x <;> simp only [Oper.upon] at h ⊢
    case panic u => exact h

theorem wpOp_of_list {i : Nat} {o : Oper} (hi : ops[i]? = some o) {K : Act → World → Prop} {a : Act} {w : World} (h : wpList P ops (Exit.then K Q) [o] a w) : wpOp P ops Q i K a w := by
  unfold wpOp
  rw [hi]
  simp only [wpList] at h
  by_cases hw : Region.wanted o (yielded ops a.tmps) = true
  · simp only [hw, if_true] at h ⊢
    rcases h with h | ⟨h1, h2⟩
    · refine .inl ?_
      unfold Oper.wp at h ⊢
      exact upon_then _ h
    · exact .inr ⟨h1, h2⟩
  · simp only [hw] at h ⊢
    exact h

theorem segs_sound {kd : Nat → Nat} {S : World → Prop} (hQ : ∀ c a w, ¬ Q (.panic c) a w) (hsel : Region.noSelect ops = true) :
    ∀ (segs : List (Nat × List Nat)) (live : Bool) (listed : Array Bool) (a : Act) (w : World), chkSegs ops kd live segs listed = true → (live = true → S w) → Closed ops listed →
      wpSegs P ops S Q (theOps ops segs) a w → ∀ fuel, total segs ≤ fuel → wpAnyK P ops kd S Q fuel listed a w
  | [], live, listed, a, w, hc, hS, hcl, h, fuel, hf => by
    have hr : Region.ready .any ops listed = [] := by simpa [chkSegs] using hc
    cases fuel with
    | zero => exact ⟨hr, h⟩
    | succ f => exact ⟨fun _ => h, by rw [hr]; simp⟩
  | (t, l) :: r, live, listed, a, w, hc, hS, hcl, h, fuel, hf => by
    simp only [chkSegs, Bool.and_eq_true] at hc
    obtain ⟨hc1, hc2⟩ := hc
    have htot : l.length + total r ≤ fuel := hf
    match t, hc1, hc2, h with
    | 0, hc1, hc2, h =>
      exact run_sound (t := 0) (C := fun _ => True) (by omega) hQ hsel (fun _ _ _ => trivial) (fun _ _ => trivial) (total r) _ w trivial _
        (fun listed a hk hcl hF fuel hf => segs_sound hQ hsel r live listed a w hk hS hcl hF fuel hf) l listed a hc2 hcl h fuel htot
    | 1, hc1, hc2, h =>
      have hl : live = true := hc1
      exact run_sound (t := 1) (C := S) (by omega) hQ hsel (fun _ _ h => h) (fun h => by omega) (total r) _ w (hS hl) _
        (fun listed a hk hcl hF fuel hf => segs_sound hQ hsel r live listed a w hk hS hcl hF fuel hf) l listed a hc2 hcl h fuel htot
    | 2, hc1, hc2, h =>
      obtain ⟨i, rfl⟩ : ∃ i, l = [i] := by
        have : l.length = 1 := by simpa using hc1
        match l, this with
        | [i], _ => exact ⟨i, rfl⟩
      obtain ⟨fuel, rfl⟩ : ∃ f, fuel = f + 1 := ⟨fuel - 1, by simp at htot; omega⟩
      simp only [chkRun, Bool.and_eq_true] at hc2
      obtain ⟨hd1, hd2⟩ := hc2
      cases hoi : ops[i]? with
      | none => rw [hoi] at hd1; cases hd1
      | some oi =>
        rw [hoi] at hd1
        simp only [show ¬ (2 ≤ 1 ∨ 2 = 4) from by omega, if_false, Bool.and_eq_true, beq_iff_eq] at hd1
        refine ⟨fun h0 => (by rw [hd1.2] at h0; cases h0), fun j hj => ?_⟩
        rw [hd1.2] at hj
        obtain rfl : j = i := by simpa using hj
        rw [if_neg (by omega)]
        have hr' : j ∈ Region.ready .any ops listed := by rw [hd1.2]; simp
        have h' : wpList P ops (Exit.then (fun a' w' => S w' ∧ wpSegs P ops S Q (theOps ops r) a' w') Q) [oi] a w := by rw [← nthOp_of hoi]; exact h
        exact wpOp_mono (fun a' w' hh => ⟨fun _ => hh.1, segs_sound hQ hsel r true _ a' w' hd2 (fun _ => hh.1) (hcl.set hr') hh.2 fuel (by simp at htot; omega)⟩) (wpOp_of_list hoi h')
    | 3, hc1, hc2, h =>
      obtain ⟨i, rfl⟩ : ∃ i, l = [i] := by
        have : l.length = 1 := by simpa using hc1
        match l, this with
        | [i], _ => exact ⟨i, rfl⟩
      obtain ⟨fuel, rfl⟩ : ∃ f, fuel = f + 1 := ⟨fuel - 1, by simp at htot; omega⟩
      simp only [chkRun, Bool.and_eq_true] at hc2
      obtain ⟨hd1, hd2⟩ := hc2
      cases hoi : ops[i]? with
      | none => rw [hoi] at hd1; cases hd1
      | some oi =>
        rw [hoi] at hd1
        simp only [show ¬ (3 ≤ 1 ∨ 3 = 4) from by omega, if_false, Bool.and_eq_true, beq_iff_eq] at hd1
        refine ⟨fun h0 => (by rw [hd1.2] at h0; cases h0), fun j hj => ?_⟩
        rw [hd1.2] at hj
        obtain rfl : j = i := by simpa using hj
        rw [if_neg (by omega)]
        have hr' : j ∈ Region.ready .any ops listed := by rw [hd1.2]; simp
        have h' : wpList P ops (Exit.then (wpSegs P ops S Q (theOps ops r)) Q) [oi] a w := by rw [← nthOp_of hoi]; exact h
        exact wpOp_mono (fun a' w' hh => ⟨fun e => by omega, segs_sound hQ hsel r false _ a' w' hd2 (fun e => by cases e) (hcl.set hr') hh fuel (by simp at htot; omega)⟩) (wpOp_of_list hoi h')
    | 4, hc1, hc2, h =>
      exact run_sound (t := 4) (C := fun w' => ∃ x : After [] w, w' = x.wd) (.inr rfl) hQ hsel (fun h => absurd rfl h) (fun h => by cases h) (total r) _ w ⟨⟨w, Fr.refl _ _⟩, rfl⟩ _
        (fun listed a hk hcl hF fuel hf => segs_sound hQ hsel r live listed a w hk hS hcl hF fuel hf) l listed a hc2 hcl h fuel htot
    | (n + 5), hc1, hc2, h => cases hc1

/-- **A region, in the order that 'segs' names.** -/
theorem wp_region_segs {id : Nat} {a : Act} {w : World} {l : List Oper} (segs : List (Nat × List Nat)) (S : World → Prop) (hm : P.follows .mixedOrders = true)
    (hB : (Region.noSelect l.toArray && decide (total segs ≤ l.toArray.size) && chkSegs l.toArray (kindOf segs) true segs (Array.replicate l.toArray.size false)) = true)
    (hS : S w.drew) (h : wpSegs P l.toArray S (NoPanic Q) (theOps l.toArray segs) a w.drew) : (Code.region id l.toArray true).wp P Q a w := by
  simp only [Bool.and_eq_true, decide_eq_true_eq] at hB
  refine wp_region_noPanic (wp_region_any hm (wpAny_of_K _ _ _ _ (segs_sound (fun _ _ _ h => h) hB.1.1 segs true _ a _ hB.2 (fun _ => hS) ?_ h _ hB.1.2)))
  intro j oj hj hl
  rw [getD_replicate_false] at hl
  cases hl


variable {S : World → Prop} {l : List Oper} {r : List (Nat × List Oper)} {a : Act} {w : World}
theorem wpSegs_pure (h : wpQuiet P ops (fun _ => True) (fun a' => wpSegs P ops S Q r a' w) l a) : wpSegs P ops S Q ((0, l) :: r) a w := h
theorem wpSegs_soft (h : wpQuiet P ops S (fun a' => wpSegs P ops S Q r a' w) l a) : wpSegs P ops S Q ((1, l) :: r) a w := h
theorem wpSegs_here (h : wpQuiet P ops (fun w' => ∃ x : After [] w, w' = x.wd) (fun a' => wpSegs P ops S Q r a' w) l a) : wpSegs P ops S Q ((4, l) :: r) a w := h
theorem wpSegs_keep (h : wpList P ops (Exit.then (fun a' w' => S w' ∧ wpSegs P ops S Q r a' w') Q) l a w) : wpSegs P ops S Q ((2, l) :: r) a w := h
theorem wpSegs_hard (h : wpList P ops (Exit.then (wpSegs P ops S Q r) Q) l a w) : wpSegs P ops S Q ((3, l) :: r) a w := h
/-- What a cell holds in whatever world in which only the blocks fp may have turned. -/
@[go_sem] theorem cell_of_fr {fp : List Nat} {w0 : World} (x : After fp w0) (p : Addr) (h1 : (w0.cell? p).isSome = true) (h2 : p.block ∉ fp) : x.wd.cell? p = w0.cell? p :=
  World.cell?_of_block (w := w0) (x.fr.block _ (by obtain ⟨u, hu⟩ := Option.isSome_iff_exists.1 h1; exact World.block_lt_of_cell? w0 p hu) h2)

/-- **The same, where of memory all that was there, but the blocks fp, stays as it is till the last read is done.** -/
theorem wp_region_fr {id : Nat} {a : Act} {w : World} {l : List Oper} (segs : List (Nat × List Nat)) (fp : List Nat) (hm : P.follows .mixedOrders = true)
    (hB : (Region.noSelect l.toArray && decide (total segs ≤ l.toArray.size) && chkSegs l.toArray (kindOf segs) true segs (Array.replicate l.toArray.size false)) = true)
    (h : wpSegs P l.toArray (fun w' => ∃ x : After fp w.drew, w' = x.wd) (NoPanic Q) (theOps l.toArray segs) a w.drew) : (Code.region id l.toArray true).wp P Q a w :=
  wp_region_segs segs _ hm hB ⟨⟨w.drew, Fr.refl _ _⟩, rfl⟩ h

theorem wpSegs_done (h : Q .normal a w) : wpSegs P ops S (NoPanic Q) [] a w := h

end
/-! ### step by step, where the order of what writes is open -/
def setAll : List Nat → Array Bool → Array Bool
  | [], b => b
  | i :: r, b => setAll r (b.setIfInBounds i true)

/-- Down-closed, as a Bool. -/
def closedB (ops : Array Oper) (listed : Array Bool) : Bool :=
  (List.range ops.size).all fun j => !listed.getD j false || match ops[j]? with
    | none => true
    | some oj => oj.after.all fun e => !Region.binds .any e || listed.getD e.on false

theorem closed_of_B {ops : Array Oper} {listed : Array Bool} (h : closedB ops listed = true) : Closed ops listed := by
  intro j oj hj hl e he hb
  simp only [closedB, List.all_eq_true, List.mem_range] at h
  have h1 := h j (Array.getElem?_eq_some_iff.1 hj).1
  rw [hl, hj] at h1
  simp only [Bool.not_true, Bool.false_or, Array.all_eq_true_iff_forall_mem] at h1
  have h2 := h1 e he
  rw [hb] at h2
  simpa using h2

section
variable {P : Program} {ops : Array Oper} {Q : Exit → Act → World → Prop}

theorem run_exact {kd : Nat → Nat} {S C : World → Prop} {t : Nat} (ht : t ≤ 1 ∨ t = 4) (hQ : ∀ c a w, ¬ Q (.panic c) a w) (hsel : Region.noSelect ops = true) (hC : t ≠ 4 → ∀ w, S w → C w) (hCt : t = 0 → ∀ w, C w) (N : Nat) (w : World) (hw : C w) :
    ∀ (l : List Nat) (listed : Array Bool) (a : Act), chkRun ops kd t l listed (fun _ => true) = true → Closed ops listed → wpQuiet P ops C (fun a' => wpAnyK P ops kd S Q N (setAll l listed) a' w) (l.map (nthOp ops)) a →
      wpAnyK P ops kd S Q (l.length + N) listed a w
  | [], listed, a, hc, hcl, h => by rw [List.length_nil, Nat.zero_add]; exact h
  | i :: r, listed, a, hc, hcl, h => by
    rw [List.length_cons, Nat.add_right_comm]
    simp only [chkRun, Bool.and_eq_true] at hc
    obtain ⟨hc1, hc2⟩ := hc
    cases hoi : ops[i]? with
    | none => rw [hoi] at hc1; cases hc1
    | some oi =>
      rw [hoi] at hc1
      simp only [ht, if_true, Bool.and_eq_true, decide_eq_true_eq] at hc1
      obtain ⟨⟨⟨⟨hk1, hs⟩, hr⟩, hfr⟩, hh⟩ := hc1
      simp only [List.map_cons, nthOp_of hoi] at h
      have hr' : i ∈ Region.ready .any ops listed := by simpa using hr
      obtain ⟨v, hy, hK⟩ := yieldsIf_of_quiet hs (show if Region.wanted oi (yielded ops a.tmps) then oi.quiet P a C (wpQuiet P ops C (fun a' => wpAnyK P ops kd S Q N (setAll r (listed.setIfInBounds i true)) a' w) (r.map (nthOp ops))) else wpQuiet P ops C (fun a' => wpAnyK P ops kd S Q N (setAll r (listed.setIfInBounds i true)) a' w) (r.map (nthOp ops)) (a.put oi.dst undef) from h)
      have hrec := run_exact ht hQ hsel hC hCt N w hw r _ _ hc2 (hcl.set hr') hK
      refine wpAnyK_first hoi hk1 (Region.noSelect_spec hsel) hQ _ listed a w hw hcl (Region.free_spec hoi hfr) ?_ hr' hy hrec
      intro j hjs hj
      by_cases h0 : t = 0
      · exact .inr (.inr (.inl (hCt h0)))
      · have : (t == 0) = false := by simpa using h0
        simp only [this, Bool.false_or, List.all_eq_true, List.mem_range] at hh
        have := hh j hjs
        rw [hj] at this
        simp only [Bool.false_or, Bool.or_eq_true, decide_eq_true_eq] at this
        rcases this with h1 | h1
        · by_cases h4 : t = 4
          · rw [if_pos h4] at h1; exact .inl h1
          · rw [if_neg h4] at h1; exact .inr (.inl ⟨h1, hC h4⟩)
        · exact .inr (.inr (.inr h1))

/-- The kinds, by two lists. -/
def kindK (ks : List Nat × List Nat) (i : Nat) : Nat := if ks.1.contains i then 2 else if ks.2.contains i then 3 else 0
/-- What is still to come: N operations at most, 'listed' have been. -/
def wpStep (P : Program) (ops : Array Oper) (ks : List Nat × List Nat) (S : World → Prop) (Q : Exit → Act → World → Prop) (N : Nat) (listed : Array Bool) (a : Act) (w : World) : Prop :=
  wpAnyK P ops (kindK ks) S (NoPanic Q) N listed a w

theorem step_start {id : Nat} {a : Act} {w : World} {l : List Oper} (ks : List Nat × List Nat) (fp : List Nat) (hm : P.follows .mixedOrders = true)
    (h : wpStep P l.toArray ks (fun w' => ∃ x : After fp w.drew, w' = x.wd) Q l.length (Array.replicate l.length false) a w.drew) : (Code.region id l.toArray true).wp P Q a w :=
  wp_region_noPanic (wp_region_any hm (wpAny_of_K _ _ _ _ h))

theorem step_reads {ks : List Nat × List Nat} {S : World → Prop} {N M : Nat} {listed : Array Bool} {a : Act} {w : World} (l : List Nat)
    (hB : (Region.noSelect ops && closedB ops listed && chkRun ops (kindK ks) 1 l listed (fun _ => true) && M == l.length + N) = true) (hS : S w)
    (h : wpQuiet P ops S (fun a' => wpStep P ops ks S Q N (setAll l listed) a' w) (l.map (nthOp ops)) a) : wpStep P ops ks S Q M listed a w := by
  simp only [Bool.and_eq_true, beq_iff_eq] at hB
  obtain ⟨⟨⟨h1, h2⟩, h3⟩, rfl⟩ := hB
  exact run_exact (kd := kindK ks) (by omega) (fun _ _ _ h => h) h1 (fun _ _ h => h) (fun h => by omega) N w hS l listed a h3 (closed_of_B h2) h

theorem step_pures {ks : List Nat × List Nat} {S : World → Prop} {N M : Nat} {listed : Array Bool} {a : Act} {w : World} (l : List Nat)
    (hB : (Region.noSelect ops && closedB ops listed && chkRun ops (kindK ks) 0 l listed (fun _ => true) && M == l.length + N) = true)
    (h : wpQuiet P ops (fun _ => True) (fun a' => wpStep P ops ks S Q N (setAll l listed) a' w) (l.map (nthOp ops)) a) : wpStep P ops ks S Q M listed a w := by
  simp only [Bool.and_eq_true, beq_iff_eq] at hB
  obtain ⟨⟨⟨h1, h2⟩, h3⟩, rfl⟩ := hB
  exact run_exact (kd := kindK ks) (by omega) (fun _ _ _ h => h) h1 (fun _ _ _ => trivial) (fun _ _ => trivial) N w trivial l listed a h3 (closed_of_B h2) h

/-- One operation that writes, S kept. -/
theorem step_keep {ks : List Nat × List Nat} {S : World → Prop} {N M : Nat} {listed : Array Bool} {a : Act} {w : World} (i : Nat)
    (hB : (Region.ready .any ops listed == [i] && kindK ks i == 2 && M == N + 1) = true) {o : Oper} (ho : ops[i]? = some o)
    (h : wpList P ops (Exit.then (fun a' w' => S w' ∧ wpStep P ops ks S Q N (setAll [i] listed) a' w') (NoPanic Q)) [o] a w) : wpStep P ops ks S Q M listed a w := by
  simp only [Bool.and_eq_true, beq_iff_eq] at hB
  obtain ⟨⟨h1, h2⟩, rfl⟩ := hB
  refine ⟨fun h0 => (by rw [h1] at h0; cases h0), fun j hj => ?_⟩
  rw [h1] at hj
  obtain rfl : j = i := by simpa using hj
  rw [if_neg (by rw [h2]; omega)]
  exact wpOp_mono (fun a' w' hh => ⟨fun _ => hh.1, hh.2⟩) (wpOp_of_list ho h)

/-- One operation that writes. -/
theorem step_hard {ks : List Nat × List Nat} {S : World → Prop} {N M : Nat} {listed : Array Bool} {a : Act} {w : World} (i : Nat)
    (hB : (Region.ready .any ops listed == [i] && kindK ks i == 3 && M == N + 1) = true) {o : Oper} (ho : ops[i]? = some o)
    (h : wpList P ops (Exit.then (wpStep P ops ks S Q N (setAll [i] listed)) (NoPanic Q)) [o] a w) : wpStep P ops ks S Q M listed a w := by
  simp only [Bool.and_eq_true, beq_iff_eq] at hB
  obtain ⟨⟨h1, h2⟩, rfl⟩ := hB
  refine ⟨fun h0 => (by rw [h1] at h0; cases h0), fun j hj => ?_⟩
  rw [h1] at hj
  obtain rfl : j = i := by simpa using hj
  rw [if_neg (by rw [h2]; omega)]
  exact wpOp_mono (fun a' w' hh => ⟨fun e => by rw [h2] at e; omega, hh⟩) (wpOp_of_list ho h)

/-- One of two that write, S kept by both. -/
theorem step_two {ks : List Nat × List Nat} {S : World → Prop} {N M : Nat} {listed : Array Bool} {a : Act} {w : World} (i j : Nat)
    (hB : (Region.ready .any ops listed == [i, j] && kindK ks i == 2 && kindK ks j == 2 && M == N + 1) = true) {oi oj : Oper} (hoi : ops[i]? = some oi) (hoj : ops[j]? = some oj)
    (h1 : wpList P ops (Exit.then (fun a' w' => S w' ∧ wpStep P ops ks S Q N (setAll [i] listed) a' w') (NoPanic Q)) [oi] a w)
    (h2 : wpList P ops (Exit.then (fun a' w' => S w' ∧ wpStep P ops ks S Q N (setAll [j] listed) a' w') (NoPanic Q)) [oj] a w) : wpStep P ops ks S Q M listed a w := by
  simp only [Bool.and_eq_true, beq_iff_eq] at hB
  obtain ⟨⟨⟨hr, hki⟩, hkj⟩, rfl⟩ := hB
  refine ⟨fun h0 => (by rw [hr] at h0; cases h0), fun k hk => ?_⟩
  rw [hr] at hk
  rcases (show k = i ∨ k = j by simpa using hk) with rfl | rfl
  · rw [if_neg (by rw [hki]; omega)]
    exact wpOp_mono (fun a' w' hh => ⟨fun _ => hh.1, hh.2⟩) (wpOp_of_list hoi h1)
  · rw [if_neg (by rw [hkj]; omega)]
    exact wpOp_mono (fun a' w' hh => ⟨fun _ => hh.1, hh.2⟩) (wpOp_of_list hoj h2)

theorem step_done {ks : List Nat × List Nat} {S : World → Prop} {N : Nat} {listed : Array Bool} {a : Act} {w : World} (hr : (Region.ready .any ops listed).isEmpty = true) (h : Q .normal a w) : wpStep P ops ks S Q N listed a w := by
  have hr' : Region.ready .any ops listed = [] := by simpa using hr
  cases N with
  | zero => exact ⟨hr', h⟩
  | succ n => exact ⟨fun _ => h, by rw [hr']; simp⟩

end
end Go.Tum
