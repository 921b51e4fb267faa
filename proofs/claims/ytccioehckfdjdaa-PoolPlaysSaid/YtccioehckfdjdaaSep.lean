/- Several objects of memory, apart from each other: what each is, and that a step at one leaves the others. -/
import Derived.Test.YtccioehckfdjdaaMBase
namespace Go.Tum
open Go.RowKit

/-- What stands in some blocks, and hangs on no others. -/
structure Thing where
  P : World → List Nat → Prop
  fr : ∀ {w w' : World} {fp fp' : List Nat}, P w fp → Fr fp' w w' → (∀ k ∈ fp, k ∉ fp') → P w' fp
  lt : ∀ {w : World} {fp : List Nat}, P w fp → ∀ k ∈ fp, k < w.heap.size

/-- Behind the world w0: things apart from each other, in memory that was made behind it; what there was is as it was. -/
def Sep (w0 w : World) (Ts : List Thing) : Prop :=
  Fr [] w0 w ∧ ∃ F : Nat → List Nat, (∀ (i : Nat) (T : Thing), Ts[i]? = some T → T.P w (F i) ∧ ∀ k ∈ F i, w0.heap.size ≤ k) ∧ ∀ i j, i < Ts.length → j < Ts.length → i ≠ j → ∀ k ∈ F i, k ∉ F j

theorem Sep.fr {w0 w : World} {Ts : List Thing} (h : Sep w0 w Ts) : Fr [] w0 w := h.1
theorem Sep.base {w0 w : World} {Ts : List Thing} (h : Sep w0 w Ts) : w0.heap.size ≤ w.heap.size := h.1.size
theorem Sep.nil {w0 w : World} (f : Fr [] w0 w) : Sep w0 w [] := ⟨f, fun _ => [], by simp, by simp⟩

theorem Sep.fr0 {w0 w w' : World} {Ts : List Thing} (h : Sep w0 w Ts) (f : Fr [] w w') : Sep w0 w' Ts := by
  obtain ⟨h0, F, hF, hd⟩ := h
  exact ⟨h0.trans f, F, fun i T hi => ⟨T.fr (hF i T hi).1 f (by simp), (hF i T hi).2⟩, hd⟩
theorem Sep.drew {w0 w : World} {Ts : List Thing} (h : Sep w0 w Ts) : Sep w0 w.drew Ts := h.fr0 (Fr.refl [] w).drew
theorem Sep.drewN {w0 w : World} {Ts : List Thing} (h : Sep w0 w Ts) (n : Nat) : Sep w0 (w.drewN n) Ts := h.fr0 ((Fr.refl [] w).drewN n)
theorem Sep.alloc {w0 w : World} {Ts : List Thing} (h : Sep w0 w Ts) (o : Obj) : Sep w0 (w.alloc o) Ts := h.fr0 ((Fr.refl [] w).alloc o)

/-- One of them. -/
theorem Sep.get {w0 w : World} {Ts : List Thing} (h : Sep w0 w Ts) (i : Nat) {T : Thing} (hi : Ts[i]? = some T) :
    ∃ fp, T.P w fp ∧ (∀ k ∈ fp, w0.heap.size ≤ k) ∧ ∀ (T' : Thing) (w' : World) (fp' : List Nat), T'.P w' fp' → Fr fp w w' → (∀ k ∈ fp', k ∈ fp ∨ w.heap.size ≤ k) → Sep w0 w' (Ts.set i T') := by
  obtain ⟨h0, F, hF, hd⟩ := h
  have hb := (hF i T hi).2
  have hil : i < Ts.length := (List.getElem?_eq_some_iff.1 hi).1
  refine ⟨F i, (hF i T hi).1, hb, fun T' w' fp' hT' f hn => ⟨h0.trans' f (fun k hk => .inr (hb k hk)), fun j => if j = i then fp' else F j, fun j Tj hj => ?_, fun j k hjl hkl hjk q hq => ?_⟩⟩
  · by_cases e : j = i
    · subst e
      rw [List.getElem?_set_self hil] at hj
      obtain rfl : T' = Tj := by simpa using hj
      simp only [if_true]
      exact ⟨hT', fun k hk => by rcases hn k hk with h1 | h1; exact hb k h1; have := h0.size; omega⟩
    · rw [List.getElem?_set_ne (fun h => e h.symm)] at hj
      simp only [if_neg e]
      have hjl : j < Ts.length := (List.getElem?_eq_some_iff.1 hj).1
      exact ⟨Tj.fr (hF j Tj hj).1 f (fun k hk => hd j i hjl hil e k hk), (hF j Tj hj).2⟩
  · rw [List.length_set] at hjl hkl
    by_cases e : j = i <;> by_cases e' : k = i
    · omega
    · simp only [if_pos e, if_neg e'] at hq ⊢
      intro hm
      rcases hn q hq with h1 | h1
      · exact hd i k hil hkl (Ne.symm e') q h1 hm
      · have hT := (hF k _ (List.getElem?_eq_getElem hkl)).1
        have := (Ts[k]).lt hT q hm
        omega
    · simp only [if_neg e, if_pos e'] at hq ⊢
      intro hm
      rcases hn q hm with h1 | h1
      · exact hd j i hjl hil e q hq h1
      · have hT := (hF j _ (List.getElem?_eq_getElem hjl)).1
        have := (Ts[j]).lt hT q hq
        omega
    · simp only [if_neg e, if_neg e'] at hq ⊢
      exact hd j k hjl hkl hjk q hq

/-- A new one. -/
theorem Sep.push {w0 w w' : World} {Ts : List Thing} (h : Sep w0 w Ts) (f : Fr [] w w') {T : Thing} {fp : List Nat} (hT : T.P w' fp) (hn : ∀ k ∈ fp, w.heap.size ≤ k) : Sep w0 w' (T :: Ts) := by
  have hs := h.1.size
  obtain ⟨h0, F, hF, hd⟩ := h
  refine ⟨h0.trans f, fun i => match i with | 0 => fp | i + 1 => F i, fun i Ti hi => ?_, fun i j hi hj hij q hq => ?_⟩
  · cases i with
    | zero =>
      obtain rfl : T = Ti := by simpa using hi
      exact ⟨hT, fun k hk => by have := hn k hk; omega⟩
    | succ i =>
      have hi' : Ts[i]? = some Ti := by simpa using hi
      exact ⟨Ti.fr (hF i Ti hi').1 f (by simp), (hF i Ti hi').2⟩
  · cases i with
    | zero =>
      cases j with
      | zero => omega
      | succ j =>
        intro hm
        have hj' : j < Ts.length := by simpa using hj
        have := (Ts[j]).lt (hF j _ (List.getElem?_eq_getElem hj')).1 q hm
        have := hn q hq
        omega
    | succ i =>
      have hi' : i < Ts.length := by simpa using hi
      cases j with
      | zero =>
        intro hm
        have := (Ts[i]).lt (hF i _ (List.getElem?_eq_getElem hi')).1 q hq
        have := hn q hm
        omega
      | succ j => exact hd i j hi' (by simpa using hj) (by omega) q hq

/-- A thing that a call made, in memory of its own, with all that there was left as it was. -/
def Fresh (w w' : World) (T : Thing) : Prop := Fr [] w w' ∧ ∃ fp, T.P w' fp ∧ ∀ k ∈ fp, w.heap.size ≤ k
theorem Fresh.fr {w w' : World} {T : Thing} (h : Fresh w w' T) : Fr [] w w' := h.1
theorem Sep.fresh {w0 w w' : World} {Ts : List Thing} (h : Sep w0 w Ts) {T : Thing} (hT : Fresh w w' T) : Sep w0 w' (T :: Ts) := by
  obtain ⟨f, fp, hp, hn⟩ := hT
  exact h.push f hp hn
/-- Out of the things behind a call: a new one. -/
theorem Sep.toFresh {w w' : World} {T : Thing} (h : Sep w w' [T]) : Fresh w w' T := by
  obtain ⟨fp, hp, hb, _⟩ := h.get 0 rfl
  exact ⟨h.fr, fp, hp, hb⟩
/-- The first one is let go. -/
theorem Sep.tail {w0 w : World} {T : Thing} {Ts : List Thing} (h : Sep w0 w (T :: Ts)) : Sep w0 w Ts := by
  obtain ⟨h0, F, hF, hd⟩ := h
  exact ⟨h0, fun i => F (i + 1), fun i Ti hi => hF (i + 1) Ti (by simpa using hi), fun i j hi hj hij => hd (i + 1) (j + 1) (by simpa using hi) (by simpa using hj) (by omega)⟩
/-- So many of them, and in another order: 'pick' names which. -/
theorem Sep.sub {w0 w : World} {Ts Ts' : List Thing} (h : Sep w0 w Ts) (pick : List Nat) (hp : pick.map (fun i => Ts[i]?) = Ts'.map some) (hn : pick.Nodup) : Sep w0 w Ts' := by
  obtain ⟨h0, F, hF, hd⟩ := h
  have hlen : pick.length = Ts'.length := by have := congrArg List.length hp; simpa using this
  have hat : ∀ i (hi : i < Ts'.length), Ts[pick[i]'(by omega)]? = some Ts'[i] := by
    intro i hi
    have := congrArg (fun l => l[i]?) hp
    simp only [List.getElem?_map, List.getElem?_eq_getElem (show i < pick.length by omega), List.getElem?_eq_getElem hi, Option.map_some, Option.some.injEq] at this
    exact this
  refine ⟨h0, fun i => F (pick.getD i 0), fun i T hi => ?_, fun i j hi hj hij => ?_⟩
  · obtain ⟨hil, rfl⟩ := List.getElem?_eq_some_iff.1 hi
    have e : pick.getD i 0 = pick[i]'(by omega) := by simp [List.getD, show i < pick.length by omega]
    dsimp only
    rw [e]
    exact hF _ _ (hat i hil)
  · have ei : pick.getD i 0 = pick[i]'(by omega) := by simp [List.getD, show i < pick.length by omega]
    have ej : pick.getD j 0 = pick[j]'(by omega) := by simp [List.getD, show j < pick.length by omega]
    show ∀ k ∈ F (pick.getD i 0), k ∉ F (pick.getD j 0)
    rw [ei, ej]
    exact hd _ _ ((List.getElem?_eq_some_iff.1 (hat i hi)).1) ((List.getElem?_eq_some_iff.1 (hat j hj)).1) (fun e => by
      have hn2 := List.pairwise_iff_getElem.1 hn
      rcases Nat.lt_or_gt_of_ne hij with h1 | h1
      · exact hn2 i j (by omega) (by omega) h1 e
      · exact hn2 j i (by omega) (by omega) h1 e.symm)

theorem ownsRow_any {w : World} {base : Nat} {e : TypeId} {size : Nat} {v : Value} {n : Nat} {xs : List Value}
    (h : w.ownsRow base e size v n xs) : ∃ la lc, v = .slice la n lc := by
  rcases ownsRow_form h with ⟨e, e2⟩ | ⟨g, cap, e, _⟩
  · exact ⟨none, 0, by rw [e, e2]⟩
  · exact ⟨_, _, e⟩

/-- One of them, brought to the front. -/
theorem Sep.pull {w0 w : World} {Ts : List Thing} (h : Sep w0 w Ts) (i : Nat) {T : Thing} (hi : Ts[i]? = some T) : Sep w0 w (T :: Ts.eraseIdx i) := by
  obtain ⟨h0, F, hF, hd⟩ := h
  have hil : i < Ts.length := (List.getElem?_eq_some_iff.1 hi).1
  have hlen : (Ts.eraseIdx i).length = Ts.length - 1 := by rw [List.length_eraseIdx]; simp [hil]
  refine ⟨h0, fun j => match j with | 0 => F i | j + 1 => if j < i then F j else F (j + 1), fun j Tj hj => ?_, fun j k hj hk hjk q hq => ?_⟩
  · cases j with
    | zero =>
      obtain rfl : T = Tj := by simpa using hj
      exact hF i T hi
    | succ j =>
      have hj' : (Ts.eraseIdx i)[j]? = some Tj := by simpa using hj
      rw [List.getElem?_eraseIdx] at hj'
      dsimp only
      split at hj' <;> rename_i hc
      · rw [if_pos hc]; exact hF _ _ hj'
      · rw [if_neg hc]; exact hF _ _ hj'
  · simp only [List.length_cons, hlen] at hj hk
    cases j with
    | zero =>
      cases k with
      | zero => omega
      | succ k =>
        dsimp only at hq ⊢
        split
        · exact hd i k hil (by omega) (by omega) q hq
        · exact hd i (k + 1) hil (by omega) (by omega) q hq
    | succ j =>
      cases k with
      | zero =>
        dsimp only at hq ⊢
        split at hq
        · exact hd j i (by omega) hil (by omega) q hq
        · exact hd (j + 1) i (by omega) hil (by omega) q hq
      | succ k =>
        dsimp only at hq ⊢
        split at hq <;> split
        · exact hd j k (by omega) (by omega) (by omega) q hq
        · exact hd j (k + 1) (by omega) (by omega) (by omega) q hq
        · exact hd (j + 1) k (by omega) (by omega) (by omega) q hq
        · exact hd (j + 1) (k + 1) (by omega) (by omega) (by omega) q hq
/-- .. and laid back where it was. -/
theorem Sep.back {w0 w : World} {Ts : List Thing} {T : Thing} (i : Nat) (hil : i < Ts.length) (h : Sep w0 w (T :: Ts.eraseIdx i)) : Sep w0 w (Ts.set i T) := by
  obtain ⟨h0, F, hF, hd⟩ := h
  have hlen : (Ts.eraseIdx i).length = Ts.length - 1 := by rw [List.length_eraseIdx]; simp [hil]
  refine ⟨h0, fun j => if j = i then F 0 else if j < i then F (j + 1) else F j, fun j Tj hj => ?_, fun j k hj hk hjk q hq => ?_⟩
  · by_cases e : j = i
    · subst e
      rw [List.getElem?_set_self hil] at hj
      obtain rfl : T = Tj := by simpa using hj
      simp only [if_true]
      exact hF 0 T rfl
    · rw [List.getElem?_set_ne (fun h => e h.symm)] at hj
      simp only [if_neg e]
      by_cases hji : j < i
      · rw [if_pos hji]
        refine hF (j + 1) Tj ?_
        rw [List.getElem?_cons_succ, List.getElem?_eraseIdx_of_lt hji]; exact hj
      · rw [if_neg hji]
        obtain ⟨j', rfl⟩ : ∃ j', j = j' + 1 := ⟨j - 1, by omega⟩
        refine hF (j' + 1) Tj ?_
        rw [List.getElem?_cons_succ, List.getElem?_eraseIdx_of_ge (by omega)]; exact hj
  · rw [List.length_set] at hj hk
    have hD : ∀ a b, a < Ts.length → b < Ts.length → a ≠ b → ∀ k ∈ F a, k ∉ F b := fun a b ha hb => hd a b (by simp only [List.length_cons, hlen]; omega) (by simp only [List.length_cons, hlen]; omega)
    dsimp only at hq ⊢
    split at hq <;> split
    · omega
    · split
      · exact hD 0 (k + 1) (by omega) (by omega) (by omega) q hq
      · exact hD 0 k (by omega) hk (by omega) q hq
    · split at hq
      · exact hD (j + 1) 0 (by omega) (by omega) (by omega) q hq
      · exact hD j 0 hj (by omega) (by omega) q hq
    · split at hq <;> split
      · exact hD (j + 1) (k + 1) (by omega) (by omega) (by omega) q hq
      · exact hD (j + 1) k (by omega) hk (by omega) q hq
      · exact hD j (k + 1) hj (by omega) (by omega) q hq
      · exact hD j k hj hk hjk q hq
/-- A call that turns one of them. -/
theorem Sep.call {w0 w : World} {Ts : List Thing} (h : Sep w0 w Ts) (i : Nat) {T T' : Thing} (hi : Ts[i]? = some T) {P : Program} {f : Nat} {args : Array Value} {A : Ending → Prop}
    (hc : ∀ R, Sep w0 w (T :: R) → Calls P f args w fun e w' => A e ∧ Sep w0 w' (T' :: R)) : Calls P f args w fun e w' => A e ∧ Sep w0 w' (Ts.set i T') :=
  (hc _ (h.pull i hi)).mono fun _ _ ⟨h1, h2⟩ => ⟨h1, Sep.back i ((List.getElem?_eq_some_iff.1 hi).1) h2⟩

/-! ### things: a block; a slice that is owned -/
def blkT (k : Nat) (T : TypeId) (cs : List Value) : Thing where
  P w fp := fp = [k] ∧ Blk w k T cs
  fr h f hn := ⟨h.1, h.2.fr f (hn k (by simp [h.1]))⟩
  lt h := by rw [h.1]; simp [h.2.lt]
def rowT (base : Nat) (e : TypeId) (size : Nat) (v : Value) (n : Nat) (xs : List Value) : Thing where
  P w fp := fp = v.ownBlock.toList ∧ w.ownsRow base e size v n xs
  fr h f hn := ⟨h.1, ownsRow_fr h.2 f (fun k hk => hn k (by simp [h.1, hk]))⟩
  lt h := by
    rw [h.1]
    intro k hk
    exact (World.ownsRow.lt h.2 k (by simpa using hk)).2

theorem Fresh.form {w w' : World} {base : Nat} {e : TypeId} {size : Nat} {v : Value} {n : Nat} {xs : List Value} (h : Fresh w w' (rowT base e size v n xs)) : ∃ la lc, v = .slice la n lc := by
  obtain ⟨_, fp, hp, _⟩ := h
  exact ownsRow_any hp.2
theorem Sep.form {w0 w : World} {Ts : List Thing} (h : Sep w0 w Ts) (i : Nat) {base : Nat} {e : TypeId} {size : Nat} {v : Value} {n : Nat} {xs : List Value} (hi : Ts[i]? = some (rowT base e size v n xs)) : ∃ la lc, v = .slice la n lc := by
  obtain ⟨fp, hp, _⟩ := h.get i hi
  exact ownsRow_any hp.2
theorem Sep.blk {w0 w : World} {Ts : List Thing} (h : Sep w0 w Ts) (i : Nat) {k : Nat} {T : TypeId} {cs : List Value} (hi : Ts[i]? = some (blkT k T cs)) : Blk w k T cs := by
  obtain ⟨fp, hp, _⟩ := h.get i hi
  exact hp.2
theorem Sep.row {w0 w : World} {Ts : List Thing} (h : Sep w0 w Ts) (i : Nat) {base : Nat} {e : TypeId} {size : Nat} {v : Value} {n : Nat} {xs : List Value} (hi : Ts[i]? = some (rowT base e size v n xs)) : w.ownsRow base e size v n xs := by
  obtain ⟨fp, hp, _⟩ := h.get i hi
  exact hp.2
/-- A cell of a block is set. -/
theorem Sep.set {w0 w : World} {Ts : List Thing} (h : Sep w0 w Ts) (i : Nat) {k : Nat} {T : TypeId} {cs : List Value} (hi : Ts[i]? = some (blkT k T cs)) (j : Nat) (u : Value) :
    Sep w0 (w.setCell ⟨k, j, none⟩ u) (Ts.set i (blkT k T (cs.set j u))) := by
  obtain ⟨fp, hp, _, hk⟩ := h.get i hi
  exact hk _ _ [k] ⟨rfl, hp.2.set j u⟩ (((Fr.refl fp w).setCell (.inl (by simp [hp.1])) u)) (fun q hq => .inl (by rw [hp.1]; exact hq))
/-- A cell of a slice is set. -/
theorem Sep.setRow {w0 w : World} {Ts : List Thing} (h : Sep w0 w Ts) (i : Nat) {base : Nat} {e : TypeId} {size g n cap : Nat} {xs : List Value} (hi : Ts[i]? = some (rowT base e size (.slice (some ⟨g, 0, none⟩) n cap) n xs)) (j : Nat) (u : Value) :
    Sep w0 (w.setCell ⟨g, j, none⟩ u) (Ts.set i (rowT base e size (.slice (some ⟨g, 0, none⟩) n cap) n (xs.set j u))) := by
  obtain ⟨fp, hp, _, hk⟩ := h.get i hi
  exact hk _ _ [g] ⟨rfl, ownsRow_set hp.2 j u⟩ (((Fr.refl fp w).setCell (.inl (by rw [hp.1]; simp [Value.ownBlock])) u)) (fun q hq => .inl (by rw [hp.1]; exact hq))
/-- A slice has grown. -/
theorem Sep.grown {w0 w w' : World} {Ts : List Thing} (h : Sep w0 w Ts) (i : Nat) {base : Nat} {e : TypeId} {size : Nat} {v : Value} {n : Nat} {xs : List Value} (hi : Ts[i]? = some (rowT base e size v n xs))
    {v' : Value} {n' : Nat} {xs' : List Value} (ho : w'.ownsRow base e size v' n' xs') (hg : w.grownBy w' v.ownBlock) (hb : ∀ g, v'.ownBlock = some g → v.ownBlock = some g ∨ w.heap.size ≤ g) :
    Sep w0 w' (Ts.set i (rowT base e size v' n' xs')) := by
  obtain ⟨fp, hp, _, hk⟩ := h.get i hi
  refine hk _ _ v'.ownBlock.toList ⟨rfl, ho⟩ ((Fr.refl fp w).grown hg (fun k e => .inl (by rw [hp.1]; simp [e]))) (fun q hq => ?_)
  rw [hp.1]
  rcases hb q (by simpa using hq) with h1 | h1
  · exact .inl (by simp [h1])
  · exact .inr h1
/-- A block that was just made. -/
theorem Sep.new {w0 w : World} {Ts : List Thing} (h : Sep w0 w Ts) (T : TypeId) (cs : List Value) : Sep w0 (w.alloc (.cells cs.toArray T)) (blkT w.heap.size T cs :: Ts) :=
  h.push ((Fr.refl [] w).alloc _) (fp := [w.heap.size]) ⟨rfl, Blk.new w T cs⟩ (by simp)

/-! ### elements of more cells than one -/
def flat {T : Type} (en : T → List Value) (l : List T) : List Value := l.flatMap en
theorem flat_nil {T : Type} (en : T → List Value) : flat en [] = [] := rfl
theorem flat_app {T : Type} (en : T → List Value) (l l' : List T) : flat en (l ++ l') = flat en l ++ flat en l' := by simp [flat]
theorem flat_one {T : Type} (en : T → List Value) (x : T) : flat en [x] = en x := by simp [flat]
theorem flat_length {T : Type} {en : T → List Value} {n : Nat} (hn : ∀ x, (en x).length = n) : ∀ l : List T, (flat en l).length = l.length * n
  | [] => by simp [flat]
  | x :: r => by
    have := flat_length hn r
    simp only [flat, List.flatMap_cons, List.length_append, hn, List.length_cons] at *
    rw [this, Nat.succ_mul]; omega
theorem flat_get {T : Type} {en : T → List Value} {n : Nat} (hn : ∀ x, (en x).length = n) : ∀ (l : List T) (i : Nat) (hi : i < l.length) (j : Nat), j < n → (flat en l)[i * n + j]? = (en l[i])[j]?
  | [], i, hi, _, _ => by simp at hi
  | x :: r, 0, _, j, hj => by
    simp only [flat, List.flatMap_cons, Nat.zero_mul, Nat.zero_add, List.getElem_cons_zero]
    rw [List.getElem?_append_left (by rw [hn]; exact hj)]
  | x :: r, i + 1, hi, j, hj => by
    have := flat_get hn r i (by simpa using hi) j hj
    simp only [flat, List.flatMap_cons, List.getElem_cons_succ] at *
    rw [List.getElem?_append_right (by rw [hn, Nat.succ_mul]; omega), hn, Nat.succ_mul, show i * n + n + j - n = i * n + j by omega, this]
theorem flat_take {T : Type} {en : T → List Value} {n : Nat} (hn : ∀ x, (en x).length = n) : ∀ (l : List T) (k : Nat), (flat en l).take (k * n) = flat en (l.take k)
  | [], k => by simp [flat]
  | x :: r, 0 => by simp [flat]
  | x :: r, k + 1 => by
    have := flat_take hn r k
    simp only [flat, List.flatMap_cons, List.take_succ_cons] at *
    rw [Nat.succ_mul, Nat.add_comm, List.take_append, hn, Nat.add_sub_cancel_left, this, List.take_of_length_le (by rw [hn]; omega)]
theorem flat_one_cell {T : Type} {en : T → List Value} (h : ∀ x, ∀ u ∈ en x, u.oneCell' = true) (l : List T) : ∀ u ∈ flat en l, u.oneCell' = true := by
  intro u hu
  simp only [flat, List.mem_flatMap] at hu
  obtain ⟨e, _, he⟩ := hu
  exact h e u he
/-- An element is turned. -/
theorem flat_ext {T : Type} {en : T → List Value} {n : Nat} (hn : ∀ x, (en x).length = n) (l : List T) {xs : List Value} (hl : xs.length = l.length * n)
    (h : ∀ i, (hi : i < l.length) → ∀ j, j < n → xs[i * n + j]? = (en l[i])[j]?) : xs = flat en l := by
  apply List.ext_getElem?
  intro k
  by_cases hk : k < l.length * n
  · have hn0 : 0 < n := by
      apply Nat.pos_of_ne_zero; intro e; subst e; omega
    have h1 : k / n < l.length := Nat.div_lt_of_lt_mul (by rw [Nat.mul_comm]; exact hk)
    have e : k / n * n + k % n = k := by rw [Nat.mul_comm]; exact Nat.div_add_mod k n
    have := h (k / n) h1 (k % n) (Nat.mod_lt _ hn0)
    rw [e] at this
    rw [this, ← flat_get hn l (k / n) h1 (k % n) (Nat.mod_lt _ hn0), e]
  · rw [List.getElem?_eq_none (by omega), List.getElem?_eq_none (by rw [flat_length hn]; omega)]
end Go.Tum
