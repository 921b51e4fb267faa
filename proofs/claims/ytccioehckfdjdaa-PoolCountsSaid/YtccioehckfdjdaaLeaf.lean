/- Arguments opened to their cells: structs of ints and bools, nested however, by value and in slices. -/
import Derived.Test.YtccioehckfdjdaaBase
import Derived.Deep.Slices
import Derived.ChangeSame
namespace Go.Tum
open Go.ChangeShapes Go.WideShapes Go.Deep

/-- What one cell holds. -/
inductive LK where
  | int (k : IntKind)
  | bool
deriving DecidableEq

def LK.ok : LK → Value → Prop
  | .int k, v => ∃ n, v = .int k n ∧ (Lit.int k n).wf = true
  | .bool, v => ∃ b, v = .bool b

/-- The values are as the kinds say. -/
def LKs (ks : List LK) (vs : List Value) : Prop := vs.length = ks.length ∧ ∀ (j : Nat) (k : LK), ks[j]? = some k → ∃ v, vs[j]? = some v ∧ k.ok v

theorem LKs.nil : LKs [] [] := ⟨rfl, by simp⟩
theorem LKs.app {k1 k2 : List LK} {v1 v2 : List Value} (h : LKs k1 v1) (h' : LKs k2 v2) : LKs (k1 ++ k2) (v1 ++ v2) := by
  refine ⟨by simp [h.1, h'.1], fun j k hj => ?_⟩
  rcases Nat.lt_or_ge j k1.length with hl | hl
  · rw [List.getElem?_append_left hl] at hj
    rw [List.getElem?_append_left (by rw [h.1]; exact hl)]
    exact h.2 j k hj
  · rw [List.getElem?_append_right hl] at hj
    rw [List.getElem?_append_right (by rw [h.1]; exact hl), h.1]
    exact h'.2 _ k hj
theorem LKs.cons {k : LK} {ks : List LK} {vs : List Value} (h : LKs (k :: ks) vs) : ∃ v r, vs = v :: r ∧ k.ok v ∧ LKs ks r := by
  match vs, h with
  | [], h => simp [LKs] at h
  | v :: r, h =>
    obtain ⟨u, hu, hk⟩ := h.2 0 k rfl
    simp only [List.getElem?_cons_zero, Option.some.injEq] at hu
    subst hu
    exact ⟨v, r, rfl, hk, by have := h.1; simp at this; exact this, fun j k' hj => by simpa using h.2 (j + 1) k' (by simpa using hj)⟩
theorem LKs.none {vs : List Value} (h : LKs [] vs) : vs = [] := List.eq_nil_of_length_eq_zero h.1

/-- The cells of fields, one after the other. -/
def leafsGo (P : Program) (rec : TypeId → Option (List LK)) : List Field → List LK → Option (List LK)
  | [], acc => some acc
  | fd :: r, acc =>
    match rec fd.type with
    | some l => if fd.offset = acc.length ∧ P.cellsOf fd.type = l.length then leafsGo P rec r (acc ++ l) else none
    | none => none
/-- The cells of a type, one after the other. -/
def leafs (P : Program) : Nat → TypeId → Option (List LK)
  | 0, _ => none
  | f + 1, t =>
    match P.underlying t with
    | some (.int k) => some [.int k]
    | some .bool => some [.bool]
    | some (.struct fs) => leafsGo P (leafs P f) fs.toList []
    | _ => none

section
variable {H : Type} {enc : TypeId × Value → H} {P : Program} {w : World} {base : Nat} {spare : Nat → Bool} {held : Bool}

theorem trod_leafs : ∀ (f : Nat) (t : TypeId) (ks : List LK) (fuel : Nat) (cs : List Value) (x : DataW H × List MemPlace), leafs P f t = some ks → P.cellsOf t = ks.length →
    DataW.trod enc P w base spare held fuel t cs = some x → LKs ks cs := by
  intro f
  induction f with
  | zero => intro t ks fuel cs x h; simp [leafs] at h
  | succ f ih =>
    intro t ks fuel cs x h hc hx
    unfold leafs at h
    split at h
    · rename_i k hu
      obtain rfl : [LK.int k] = ks := by simpa using h
      obtain ⟨n, rfl, _, hw⟩ := DataW.trod_int hu hx
      exact ⟨rfl, fun j k' hj => by
        cases j with
        | zero => simp at hj; subst hj; exact ⟨_, rfl, n, rfl, hw⟩
        | succ j => simp at hj⟩
    · rename_i hu
      obtain rfl : [LK.bool] = ks := by simpa using h
      obtain ⟨b, rfl, _⟩ := DataW.trod_bool hu hx
      exact ⟨rfl, fun j k' hj => by
        cases j with
        | zero => simp at hj; subst hj; exact ⟨_, rfl, b, rfl⟩
        | succ j => simp at hj⟩
    · rename_i fs hu
      obtain ⟨xs, n, rfl, _, hlen, hxl, hf⟩ := DataW.trod_struct hu hx
      have main : ∀ (l : List Field) (i : Nat) (acc : List LK), fs.toList.drop i = l → leafsGo P (leafs P f) l acc = some ks → acc.length ≤ cs.length → LKs acc (cs.take acc.length) → LKs ks (cs.take ks.length) := by
        intro l
        induction l with
        | nil =>
          intro i acc _ hg _ ha
          simp only [leafsGo, Option.some.injEq] at hg
          subst hg; exact ha
        | cons fd r ihl =>
          intro i acc hd hg hle ha
          simp only [leafsGo] at hg
          split at hg
          · rename_i l hl
            split at hg
            · rename_i hcond
              obtain ⟨ho, hcl⟩ := hcond
              have hfi : fs[i]? = some fd := by
                have : (fs.toList.drop i)[0]? = some fd := by rw [hd]; rfl
                simpa using this
              have hi : i < fs.size := (Array.getElem?_eq_some_iff.1 hfi).1
              have h1 := hf i fd hfi
              have hxi : xs[i]? = some (xs[i]'(by omega)) := List.getElem?_eq_getElem (by omega)
              rw [hxi, ho, hcl] at h1
              have h2 := ih fd.type l n _ _ hl hcl h1
              have hl2 : acc.length + l.length ≤ cs.length := by
                have := h2.1
                rw [List.length_take, List.length_drop] at this
                omega
              refine ihl (i + 1) (acc ++ l) ?_ hg (by rw [List.length_append]; exact hl2) ?_
              · rw [← List.drop_drop, hd]; rfl
              · have h3 := ha.app h2
                rw [List.length_append]
                have e : List.take acc.length cs ++ List.take l.length (List.drop acc.length cs) = List.take (acc.length + l.length) cs := by
                  rw [List.take_add]
                rw [e] at h3
                exact h3
            · cases hg
          · cases hg
      have := main fs.toList 0 [] rfl h (Nat.zero_le _) (by simpa using LKs.nil)
      rw [hc] at hlen
      rwa [List.take_of_length_le (by omega)] at this
    · cases h

/-- A slice that came in: elements, each of n cells. -/
def ArgE {T : Type} (en : T → List Value) (n : Nat) (w : World) (v : Value) (l : List T) : Prop :=
  ∃ a cap, v = .slice a l.length cap ∧ l.length ≤ cap ∧ (l = [] ∨ ∃ x : Addr, a = some x ∧ x.block < w.heap.size ∧ ∀ i, (hi : i < l.length) → ∀ j u, (en l[i])[j]? = some u → w.cell? (x.add (i * n + j)) = some u)

theorem ArgE.fr {T : Type} {en : T → List Value} {n : Nat} {w w' : World} {v : Value} {l : List T} (h : ArgE en n w v l) (f : Fr [] w w') : ArgE en n w' v l := by
  obtain ⟨a, cap, e, hcap, h⟩ := h
  refine ⟨a, cap, e, hcap, h.imp id ?_⟩
  rintro ⟨x, e, hx, hc⟩
  exact ⟨x, e, Nat.lt_of_lt_of_le hx f.size, fun i hi j u hj => f.cell (hc i hi j u hj) (by simp)⟩
theorem ArgE.len {T : Type} {en : T → List Value} {n : Nat} {w : World} {v : Value} {l : List T} (h : ArgE en n w v l) : ∃ a cap, v = .slice a l.length cap := by
  obtain ⟨a, cap, e, _⟩ := h
  exact ⟨a, cap, e⟩
/-- The cells of an element, as a walk names them. -/
theorem ArgE.at {T : Type} {en : T → List Value} {n : Nat} {w : World} {a : Option Addr} {m cap : Nat} {l : List T} (h : ArgE en n w (.slice a m cap) l) {i : Nat} (hi : i < l.length) :
    ∃ x : Addr, a = some x ∧ x.block < w.heap.size ∧ (∀ u, (en l[i])[0]? = some u → w.cell? (x.add (i * n)) = some u) ∧ ∀ j u, (en l[i])[j + 1]? = some u → w.cell? ⟨(x.add (i * n)).block, (x.add (i * n)).off + (j + 1), none⟩ = some u := by
  obtain ⟨a', cap', e, _, h⟩ := h
  simp only [Value.slice.injEq] at e
  obtain ⟨rfl, rfl, rfl⟩ := e
  rcases h with h | ⟨x, rfl, hx, hc⟩
  · subst h; simp at hi
  · refine ⟨x, rfl, hx, fun u hu => hc i hi 0 u hu, fun j u hj => ?_⟩
    rw [← hc i hi (j + 1) u hj]
    congr 1
    by_cases h0 : i * n = 0
    · simp [Addr.add, h0]
    · simp [Addr.add, h0, Nat.add_assoc]

theorem argE_of {T : Type} {en : T → List Value} {n : Nat} {good : T → Prop} {t e : TypeId} {ks : List LK} {f : Nat} (ht : P.underlying t = some (.slice e)) (hk : leafs P f e = some ks) (hc : P.cellsOf e = n) (hn : ks.length = n) (h0 : 0 < n)
    (hen : ∀ vs, LKs ks vs → ∃ x : T, vs = en x ∧ good x) {fuel : Nat} {a : Option Addr} {len cap : Nat} {x : DataW H × List MemPlace}
    (h : DataW.trod enc P w base spare held fuel t (Value.slice a len cap).cells.toList = some x) :
    ∃ l : List T, ArgE en n w (.slice a len cap) l ∧ (∀ e ∈ l, good e) ∧ len = l.length ∧ l.length ≤ maxLen := by
  rcases open_slice ht h with ⟨hcs, _⟩ | ⟨b, ln, c, m, n', D, Pl, hcs, _, hl, hm, hmm, _, hi⟩
  · simp [Value.cells] at hcs
    obtain ⟨rfl, rfl, rfl⟩ := hcs
    exact ⟨[], ⟨_, _, rfl, Nat.zero_le _, .inl rfl⟩, by simp, rfl, by simp⟩
  · simp [Value.cells] at hcs
    obtain ⟨rfl, rfl, rfl⟩ := hcs
    have hlm : len ≤ m := by rw [hmm]; split <;> omega
    have each : ∀ i, i < len → ∃ q : T, good q ∧ ∀ j u, (en q)[j]? = some u → w.cell? (b.add (i * n + j)) = some u := by
      intro i hi2
      obtain ⟨cs', h1, h2⟩ := hi i (by omega)
      obtain ⟨_, hlen, hat⟩ := World.cells?_some h1
      have h3 := trod_leafs f e ks n' cs' _ hk (by omega) h2
      obtain ⟨q, rfl, hq⟩ := hen _ h3
      refine ⟨q, hq, fun j u hj => ?_⟩
      have hjl : j < n := by rw [← hc, ← hlen]; exact (List.getElem?_eq_some_iff.1 hj).1
      have := hat j (by omega)
      rw [hc, add_add] at this
      rw [this, ← hj]
    by_cases hl0 : len = 0
    · subst hl0
      exact ⟨[], ⟨_, _, rfl, Nat.zero_le _, .inl rfl⟩, by simp, rfl, by simp⟩
    · obtain ⟨q0, _, _⟩ := each 0 (by omega)
      have : ∃ q : Nat → T, ∀ i, i < len → good (q i) ∧ ∀ j u, (en (q i))[j]? = some u → w.cell? (b.add (i * n + j)) = some u := by
        classical
        refine ⟨fun i => if h : i < len then (each i h).choose else q0, fun i hi => ?_⟩
        simp only [hi, dif_pos]
        exact (each i hi).choose_spec
      obtain ⟨q, hq⟩ := this
      refine ⟨(List.range len).map q, ⟨some b, cap, by simp, by simpa using hl, .inr ⟨b, rfl, ?_, fun i hi j u hj => ?_⟩⟩, fun e he => ?_, by simp, by simp; omega⟩
      · obtain ⟨cs', h1, h2⟩ := hi 0 (by omega)
        obtain ⟨_, hlen, hat⟩ := World.cells?_some h1
        have := hat 0 (by omega)
        rw [add_add] at this
        have h5 := World.block_lt_of_cell? w _ (this.trans (List.getElem?_eq_getElem (by omega)))
        simpa [Addr.add] using h5
      · have hi' : i < len := by simpa using hi
        exact (hq i hi').2 j u (by simpa using hj)
      · simp only [List.mem_map, List.mem_range] at he
        obtain ⟨i, hi3, rfl⟩ := he
        exact (hq i hi3).1
end
end Go.Tum
