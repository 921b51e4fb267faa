/- The plain side of the document's answer for layer 8, and that package wset agrees with it. -/
import Derived.Test.YtccioehckfdjdaaWplain
namespace Go.Tum.W
open Go.Tum

def nth (p : List (Int × Int)) (k : Nat) : Int × Int := p.getD k (0, 0)
theorem nth_get {p : List (Int × Int)} {k : Nat} (h : k < p.length) : nth p k = p[k] := by simp [nth, h]
theorem nth_app {p q : List (Int × Int)} {k : Nat} (h : k < p.length) : nth (p ++ q) k = nth p k := by simp [nth, List.getD, List.getElem?_append_left h]

/-- What was put last for a cell, among the first k. -/
def rgetTo (p : List (Int × Int)) (a : Int) : Nat → Int × Bool
  | 0 => (0, false)
  | k + 1 => if (nth p k).1 = a then ((nth p k).2, true) else rgetTo p a k
def rget (p : List (Int × Int)) (a : Int) : Int × Bool := rgetTo p a p.length

theorem rgetTo_app (p q : List (Int × Int)) (a : Int) : ∀ k, k ≤ p.length → rgetTo (p ++ q) a k = rgetTo p a k
  | 0, _ => rfl
  | k + 1, h => by simp only [rgetTo]; rw [nth_app (by omega), rgetTo_app p q a k (by omega)]

theorem rget_snoc (p : List (Int × Int)) (b v a : Int) : rget (p ++ [(b, v)]) a = if b = a then (v, true) else rget p a := by
  unfold rget
  rw [List.length_append]
  simp only [List.length_singleton, rgetTo]
  have : nth (p ++ [(b, v)]) p.length = (b, v) := by simp [nth, List.getD]
  rw [this, rgetTo_app p _ a _ (Nat.le_refl _)]

def differ (p : List (Int × Int)) (i k : Nat) : Bool := (List.range k).all fun j => (nth p j).1 != (nth p i).1
def firstAt (p : List (Int × Int)) (i : Nat) : Bool := differ p i i
theorem differ_succ (p : List (Int × Int)) (i k : Nat) : differ p i (k + 1) = (differ p i k && (nth p k).1 != (nth p i).1) := by
  simp [differ, List.range_succ]

/-- All entries, in the order in which they came first. -/
def rallTo (p : List (Int × Int)) (i : Nat) : List (Int × Int) := (List.range i).filterMap fun j => if firstAt p j then some ((nth p j).1, (rget p (nth p j).1).1) else none
def rall (p : List (Int × Int)) : List (Int × Int) := rallTo p p.length
theorem rallTo_succ (p : List (Int × Int)) (i : Nat) : rallTo p (i + 1) = rallTo p i ++ (if firstAt p i then [((nth p i).1, (rget p (nth p i).1).1)] else []) := by
  simp only [rallTo, List.range_succ, List.filterMap_append, List.filterMap_cons, List.filterMap_nil]
  split <;> simp_all
theorem rallTo_length (p : List (Int × Int)) : ∀ i, (rallTo p i).length ≤ i
  | 0 => by simp [rallTo]
  | i + 1 => by
    rw [rallTo_succ, List.length_append]
    have := rallTo_length p i
    split <;> simp <;> omega

/-- Put, by the document: the room, what was put. -/
def rput (room : Nat) (p : List (Int × Int)) (a v : Int) : List (Int × Int) × Int :=
  if (rget p a).2 = false ∧ room ≤ p.length ∧ room ≤ (rall p).length then (p, 6) else (p ++ [(a, v)], 0)
def rback (p : List (Int × Int)) (m : Int) : List (Int × Int) × Bool :=
  if m < 0 ∨ (p.length : Int) < m then (p, false) else (p.take m.toNat, true)

/-- One entry more, or an entry turned. -/
def upd (l : List (Int × Int)) (a v : Int) : List (Int × Int) :=
  match idx l a with
  | some i => l.set i (a, v)
  | none => l ++ [(a, v)]

theorem firstAt_app {p q : List (Int × Int)} {j : Nat} (h : j < p.length) : firstAt (p ++ q) j = firstAt p j := by
  unfold firstAt differ
  rw [Bool.eq_iff_iff]
  simp only [List.all_eq_true, List.mem_range]
  constructor <;> intro h1 k hk <;> have := h1 k hk <;> rw [nth_app h, nth_app (by omega)] at * <;> exact this

theorem rallTo_snoc (p : List (Int × Int)) (a v : Int) : ∀ i, i ≤ p.length → rallTo (p ++ [(a, v)]) i = (rallTo p i).map fun e => if e.1 = a then (a, v) else e
  | 0, _ => rfl
  | i + 1, h => by
    rw [rallTo_succ, rallTo_succ, rallTo_snoc p a v i (by omega), firstAt_app (by omega), nth_app (by omega), rget_snoc, List.map_append]
    congr 1
    split
    · by_cases e : a = (nth p i).1
      · simp [e]
      · simp [e, Ne.symm e]
    · rfl

/-- Of a cell that was put there is an entry, and of no other. -/
theorem mem_rall (p : List (Int × Int)) (a : Int) : ∀ i, i ≤ p.length → ((∃ e ∈ rallTo p i, e.1 = a) ↔ ∃ j, j < i ∧ (nth p j).1 = a)
  | 0, _ => by simp [rallTo]
  | i + 1, h => by
    rw [rallTo_succ]
    have ih := mem_rall p a i (by omega)
    constructor
    · rintro ⟨e, he, ea⟩
      rcases List.mem_append.1 he with h1 | h1
      · obtain ⟨j, hj, hja⟩ := ih.1 ⟨e, h1, ea⟩
        exact ⟨j, by omega, hja⟩
      · split at h1
        · simp at h1; subst h1; exact ⟨i, by omega, ea⟩
        · simp at h1
    · rintro ⟨j, hj, hja⟩
      by_cases hji : j < i
      · obtain ⟨e, he, ea⟩ := ih.2 ⟨j, hji, hja⟩
        exact ⟨e, List.mem_append_left _ he, ea⟩
      · obtain rfl : j = i := by omega
        by_cases hf : firstAt p j = true
        · exact ⟨((nth p j).1, (rget p (nth p j).1).1), List.mem_append_right _ (by rw [if_pos hf]; exact List.mem_singleton.2 rfl), hja⟩
        · have : ∃ k, k < j ∧ (nth p k).1 = (nth p j).1 := by
            simp only [firstAt, differ, List.all_eq_true, List.mem_range, bne_iff_ne] at hf
            apply Classical.byContradiction
            intro hn
            exact hf fun k hk e => hn ⟨k, hk, e⟩
          obtain ⟨k, hk, hke⟩ := this
          obtain ⟨e, he, ea⟩ := ih.2 ⟨k, hk, by rw [hke, hja]⟩
          exact ⟨e, List.mem_append_left _ he, ea⟩

theorem rget_none (p : List (Int × Int)) (a : Int) : ∀ k, (rgetTo p a k).2 = false ↔ ∀ j, j < k → (nth p j).1 ≠ a
  | 0 => by simp [rgetTo]
  | k + 1 => by
    simp only [rgetTo]
    split
    · rename_i h
      simp only [Bool.true_eq_false, false_iff]
      intro hn
      exact hn k (by omega) h
    · rename_i h
      rw [rget_none p a k]
      constructor
      · intro h1 j hj
        by_cases e : j = k
        · subst e; exact h
        · exact h1 j (by omega)
      · intro h1 j hj; exact h1 j (by omega)

def Distinct (l : List (Int × Int)) : Prop := ∀ i j (hi : i < l.length) (hj : j < l.length), l[i].1 = l[j].1 → i = j

theorem idx_none_iff (l : List (Int × Int)) (a : Int) : idx l a = none ↔ ∀ e ∈ l, e.1 ≠ a := by
  simp [idx, List.findIdx?_eq_none_iff]

theorem upd_map {l : List (Int × Int)} (hd : Distinct l) {a v : Int} {i : Nat} (hx : idx l a = some i) : (l.map fun e => if e.1 = a then (a, v) else e) = l.set i (a, v) := by
  obtain ⟨hi, ha⟩ := idx_some hx
  apply List.ext_getElem (by simp)
  intro j h1 h2
  simp only [List.getElem_map]
  rw [List.getElem_set]
  have hj : j < l.length := by simpa using h1
  by_cases e : i = j
  · subst e; rw [if_pos rfl, if_pos ha]
  · rw [if_neg e, if_neg (fun h => e (hd i j hi hj (by rw [ha, h])))]

theorem rall_snoc (p : List (Int × Int)) (hd : Distinct (rall p)) (a v : Int) : rall (p ++ [(a, v)]) = upd (rall p) a v := by
  have hn : nth (p ++ [(a, v)]) p.length = (a, v) := by simp [nth, List.getD]
  have e1 : rall (p ++ [(a, v)]) = ((rall p).map fun e => if e.1 = a then (a, v) else e) ++ (if firstAt (p ++ [(a, v)]) p.length then [(a, v)] else []) := by
    unfold rall
    rw [List.length_append, List.length_singleton, rallTo_succ, rallTo_snoc p a v _ (Nat.le_refl _), hn, rget_snoc, if_pos rfl]
  have hf : firstAt (p ++ [(a, v)]) p.length = true ↔ idx (rall p) a = none := by
    rw [idx_none_iff]
    have hm := mem_rall p a p.length (Nat.le_refl _)
    simp only [firstAt, differ, List.all_eq_true, List.mem_range, bne_iff_ne, hn]
    constructor
    · intro h e he ea
      obtain ⟨j, hj, hja⟩ := hm.1 ⟨e, he, ea⟩
      exact h j hj (by rw [nth_app hj]; exact hja)
    · intro h j hj e
      rw [nth_app hj] at e
      obtain ⟨x, hx, hxa⟩ := hm.2 ⟨j, hj, e⟩
      exact h x hx hxa
  rw [e1]
  unfold upd
  cases hx : idx (rall p) a with
  | some i =>
    have : ¬ firstAt (p ++ [(a, v)]) p.length = true := fun h => by rw [hf.1 h] at hx; cases hx
    rw [if_neg this, List.append_nil, upd_map hd hx]
  | none =>
    rw [if_pos (hf.2 hx)]
    congr 1
    have hno := (idx_none_iff _ _).1 hx
    conv => rhs; rw [← List.map_id (rall p)]
    exact List.map_congr_left fun e he => by rw [if_neg (hno e he)]; rfl

theorem distinct_upd {l : List (Int × Int)} (hd : Distinct l) (a v : Int) : Distinct (upd l a v) := by
  unfold upd
  cases hx : idx l a with
  | some i =>
    obtain ⟨hi, ha⟩ := idx_some hx
    dsimp only
    have hf : ∀ j (hj : j < (l.set i (a, v)).length), (l.set i (a, v))[j].1 = (l[j]'(by simpa using hj)).1 := by
      intro j hj
      rw [List.getElem_set]
      split
      · rename_i e; subst e; exact ha.symm
      · rfl
    intro j k hj hk e
    rw [hf j hj, hf k hk] at e
    exact hd j k _ _ e
  | none =>
    dsimp only
    have hno := idx_none hx
    intro j k hj hk e
    simp only [List.length_append, List.length_singleton] at hj hk
    rcases Nat.lt_or_ge j l.length with h1 | h1 <;> rcases Nat.lt_or_ge k l.length with h2 | h2
    · rw [List.getElem_append_left h1, List.getElem_append_left h2] at e; exact hd j k h1 h2 e
    · obtain rfl : k = l.length := by omega
      rw [List.getElem_append_left h1] at e
      simp at e
      exact absurd e (hno j h1)
    · obtain rfl : j = l.length := by omega
      rw [List.getElem_append_left h2] at e
      simp at e
      exact absurd e.symm (hno k h2)
    · omega

theorem distinct_rall (p : List (Int × Int)) : Distinct (rall p) := by
  generalize hn : p.length = n
  induction n generalizing p with
  | zero =>
    have : p = [] := List.eq_nil_of_length_eq_zero hn
    subst this
    intro i j hi; simp [rall, rallTo] at hi
  | succ n ih =>
    have hp : p = p.dropLast ++ [p.getLast (by intro e; simp [e] at hn)] := (List.dropLast_concat_getLast _).symm
    have hl : p.dropLast.length = n := by simp [hn]
    rw [hp]
    have h1 := ih p.dropLast hl
    obtain ⟨a, v⟩ := p.getLast (by intro e; simp [e] at hn)
    rw [rall_snoc _ h1]
    exact distinct_upd h1 a v

/-- The set stands for what was put: same entries, as many changes. -/
structure Rep (s : S) (room : Nat) (p : List (Int × Int)) : Prop where
  room_ : s.room = room
  list : s.list = rall p
  done : s.done.length = p.length
  /-- at each mark the undone set is the set of the first so many -/
  undo_ : ∀ m, m ≤ p.length → ∃ dm, undoTo m s.done.length s = ⟨room, rall (p.take m), dm⟩ ∧ dm.length = m ∧ dm = s.done.take m

theorem undoTo_comp (k : Nat) : ∀ (n : Nat) (s : S) (m : Nat), s.done.length = n → m ≤ k → undoTo m s.done.length s = undoTo m (undoTo k s.done.length s).done.length (undoTo k s.done.length s)
  | 0, s, m, hn, hm => by rw [undoTo_done (m := k) _ (by omega)]
  | n + 1, s, m, hn, hm => by
    by_cases hk : n + 1 ≤ k
    · rw [undoTo_done (m := k) _ (by omega)]
    · obtain ⟨dr, c, hd⟩ := done_last (s := s) (by omega)
      have hdl : dr.length = n := by rw [hd] at hn; simpa using hn
      rw [undoTo_step hd m (by omega), undoTo_step hd k (by omega)]
      exact undoTo_comp k n { s with list := undo s.list c, done := dr } m hdl hm

/-- Putting: the same answer, and again the same. -/
theorem rep_put {s : S} {room : Nat} {p : List (Int × Int)} (h : Rep s room p) (a v : Int) :
    (put s a v).2 = (rput room p a v).2 ∧ Rep (put s a v).1 room (rput room p a v).1 := by
  have hl := h.list
  have hsome : ∀ i, idx s.list a = some i → (rget p a).2 = true := fun i hx => by
    obtain ⟨hi, ha⟩ := idx_some hx
    apply Classical.byContradiction
    intro hn
    have hn' : (rgetTo p a p.length).2 = false := by simpa [rget] using hn
    rw [rget_none] at hn'
    obtain ⟨j, hj, hja⟩ := (mem_rall p a p.length (Nat.le_refl _)).1 ⟨s.list[i], by rw [← show rall p = rallTo p p.length from rfl, ← hl]; exact List.getElem_mem hi, ha⟩
    exact hn' j hj hja
  have hnone : idx s.list a = none → (rget p a).2 = false := fun hx => by
    unfold rget
    rw [rget_none]
    intro j hj e
    obtain ⟨x, hxm, hxa⟩ := (mem_rall p a p.length (Nat.le_refl _)).2 ⟨j, hj, e⟩
    rw [← show rall p = rallTo p p.length from rfl, ← hl] at hxm
    exact (idx_none_iff _ _).1 hx x hxm hxa
  have hlen : (rall p).length ≤ p.length := rallTo_length p p.length
  have hacc : ∀ s', put s a v = (s', 0) → s'.room = s.room → s'.list = upd s.list a v → (∃ c, s'.done = s.done ++ [c] ∧ undo s'.list c = s.list) → Rep s' room (p ++ [(a, v)]) := by
    rintro s' _ hr hli ⟨c, hc, hun⟩
    refine ⟨by rw [hr, h.room_], by rw [hli, hl, rall_snoc p (distinct_rall p)], by rw [hc]; simp [h.done], fun m hm => ?_⟩
    rw [List.length_append, List.length_singleton] at hm
    by_cases e : m = p.length + 1
    · subst e
      refine ⟨s'.done, ?_, by rw [hc]; simp [h.done], by rw [List.take_of_length_le]; rw [hc]; simp [h.done]⟩
      rw [undoTo_done _ (by rw [hc]; simp [h.done])]
      rw [List.take_of_length_le (by simp)]
      have e1 : s'.list = rall (p ++ [(a, v)]) := by rw [hli, hl, rall_snoc p (distinct_rall p)]
      rw [← e1, ← h.room_, ← hr]
    · have hst := undoTo_step hc m (by rw [h.done]; omega)
      rw [hst, hun]
      have hs : ({ s' with list := s.list, done := s.done } : S) = s := by cases s; cases s'; simp_all
      rw [hs]
      obtain ⟨dm, e1, e2, e3⟩ := h.undo_ m (by omega)
      refine ⟨dm, by rw [e1, List.take_append_of_le_length (by omega)], e2, ?_⟩
      rw [e3, hc, List.take_append_of_le_length (by rw [h.done]; omega)]
  unfold rput
  cases hx : idx s.list a with
  | some i =>
    obtain ⟨hi, ha⟩ := idx_some hx
    have hp : put s a v = ({ s with list := s.list.set i (a, v), done := s.done ++ [((i : Int), (s.list.getD i (0, 0)).2, false)] }, 0) := by simp [put, hx]
    rw [if_neg (by rw [hsome i hx]; simp)]
    refine ⟨by rw [hp], ?_⟩
    rw [hp]
    refine hacc _ hp rfl (by simp [upd, hx]) ⟨_, rfl, ?_⟩
    have e : s.list.getD i (0, 0) = s.list[i] := by simp [List.getD, hi]
    rw [e]
    exact undo_hit hi ha
  | none =>
    have hn := hnone hx
    by_cases hf : s.room ≤ s.list.length
    · have hp : put s a v = (s, 6) := by simp [put, hx, hf]
      rw [if_pos ⟨hn, by rw [← h.room_]; rw [hl] at hf; omega, by rw [← h.room_, ← hl]; exact hf⟩, hp]
      exact ⟨rfl, h⟩
    · have hp : put s a v = ({ s with list := s.list ++ [(a, v)], done := s.done ++ [((s.list.length : Int), 0, true)] }, 0) := by simp [put, hx, hf]
      rw [if_neg (by rw [← h.room_, ← hl]; omega), hp]
      exact ⟨rfl, hacc _ hp rfl (by simp [upd, hx]) ⟨_, rfl, undo_new _ _ _⟩⟩

theorem rep_new (r : Nat) : Rep ⟨r, [], []⟩ r [] :=
  ⟨rfl, rfl, rfl, fun m hm => by
    obtain rfl : m = 0 := by simpa using hm
    exact ⟨[], rfl, rfl, rfl⟩⟩

theorem rep_back {s : S} {room : Nat} {p : List (Int × Int)} (h : Rep s room p) (m : Int) :
    (back s m).2 = (rback p m).2 ∧ Rep (back s m).1 room (rback p m).1 := by
  unfold back rback
  rw [h.done]
  by_cases hc : m < 0 ∨ (p.length : Int) < m
  · rw [if_pos hc, if_pos hc]; exact ⟨rfl, h⟩
  · rw [if_neg hc, if_neg hc]
    refine ⟨rfl, ?_⟩
    obtain ⟨k, rfl⟩ : ∃ k : Nat, m = k := ⟨m.toNat, by omega⟩
    simp only [Int.toNat_natCast]
    obtain ⟨dm, e1, e2, e3⟩ := h.undo_ k (by omega)
    rw [← h.done, e1]
    refine ⟨rfl, rfl, by simp; rw [e2]; omega, fun m hm => ?_⟩
    rw [List.length_take] at hm
    obtain ⟨dm', f1, f2, f3⟩ := h.undo_ m (by omega)
    have hcomp := undoTo_comp k _ s m rfl (by omega)
    rw [e1] at hcomp
    dsimp only at hcomp ⊢
    refine ⟨dm', by rw [← hcomp, f1, List.take_take, Nat.min_eq_left (by omega)], f2, ?_⟩
    rw [f3, e3, List.take_take, Nat.min_eq_left (by omega)]

theorem rall_val (p : List (Int × Int)) : ∀ i, ∀ e ∈ rallTo p i, e.2 = (rget p e.1).1
  | 0, e, he => by simp [rallTo] at he
  | i + 1, e, he => by
    rw [rallTo_succ] at he
    rcases List.mem_append.1 he with h1 | h1
    · exact rall_val p i e h1
    · split at h1
      · simp at h1; subst h1; rfl
      · simp at h1

theorem rget_zero (p : List (Int × Int)) (a : Int) : ∀ k, (rgetTo p a k).2 = false → (rgetTo p a k).1 = 0
  | 0, _ => rfl
  | k + 1, h => by
    simp only [rgetTo] at h ⊢
    split at h
    · simp at h
    · rename_i hn; rw [if_neg hn]; exact rget_zero p a k h

/-- Getting: the same answer. -/
theorem rep_get {s : S} {room : Nat} {p : List (Int × Int)} (h : Rep s room p) (a : Int) : get s a = rget p a := by
  have hl : s.list = rallTo p p.length := h.list
  unfold get
  cases hx : idx s.list a with
  | some i =>
    obtain ⟨hi, ha⟩ := idx_some hx
    have hm : s.list[i] ∈ rallTo p p.length := hl ▸ List.getElem_mem hi
    have hv := rall_val p _ _ hm
    rw [ha] at hv
    have ht : (rget p a).2 = true := by
      apply Classical.byContradiction
      intro hn
      have hn' : (rgetTo p a p.length).2 = false := by simpa [rget] using hn
      rw [rget_none] at hn'
      obtain ⟨j, hj, hja⟩ := (mem_rall p a p.length (Nat.le_refl _)).1 ⟨_, hm, ha⟩
      exact hn' j hj hja
    have e : s.list.getD i (0, 0) = s.list[i] := by simp [List.getD, hi]
    dsimp only
    rw [e, hv, ← ht]
  | none =>
    have hn : (rgetTo p a p.length).2 = false := by
      rw [rget_none]
      intro j hj e
      obtain ⟨x, hxm, hxa⟩ := (mem_rall p a p.length (Nat.le_refl _)).2 ⟨j, hj, e⟩
      rw [← hl] at hxm
      exact (idx_none_iff _ _).1 hx x hxm hxa
    have hz := rget_zero p a _ hn
    dsimp only
    unfold rget
    rw [← hn, ← hz]

end Go.Tum.W
