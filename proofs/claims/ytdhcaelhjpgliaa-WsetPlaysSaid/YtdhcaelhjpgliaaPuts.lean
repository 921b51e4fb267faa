/- Rows of puts, and what Back makes of them: plain. -/
import Derived.Test.YtdhcaelhjpgliaaLive
namespace Go.Tum.W
def puts (s : S) (l : List (Int × Int)) : S := l.foldl (fun s e => (put s e.1 e.2).1) s
theorem puts_nil (s : S) : puts s [] = s := rfl
theorem puts_snoc (s : S) (l : List (Int × Int)) (e : Int × Int) : puts s (l ++ [e]) = (put (puts s l) e.1 e.2).1 := by simp [puts]
theorem puts_app (s : S) (l l' : List (Int × Int)) : puts s (l ++ l') = puts (puts s l) l' := by simp [puts]
/-- What a put leaves: the set as it was, or one change more. -/
theorem put_cases (s : S) (a v : Int) : (put s a v).1 = s ∨ ∃ c, (put s a v).1.done = s.done ++ [c] ∧ undo (put s a v).1.list c = s.list := by
  cases hx : idx s.list a with
  | some i =>
    obtain ⟨hi, ha⟩ := idx_some hx
    have hp : put s a v = ({ s with list := s.list.set i (a, v), done := s.done ++ [((i : Int), (s.list.getD i (0, 0)).2, false)] }, 0) := by simp [put, hx]
    rw [hp]
    refine .inr ⟨_, rfl, ?_⟩
    have e : s.list.getD i (0, 0) = s.list[i] := by simp [List.getD, hi]
    rw [e]
    exact undo_hit hi ha
  | none =>
    by_cases hf : s.room ≤ s.list.length
    · have hp : put s a v = (s, 6) := by simp [put, hx, hf]
      rw [hp]; exact .inl rfl
    · have hp : put s a v = ({ s with list := s.list ++ [(a, v)], done := s.done ++ [((s.list.length : Int), 0, true)] }, 0) := by simp [put, hx, hf]
      rw [hp]
      exact .inr ⟨_, rfl, undo_new _ _ _⟩
theorem put_done_ge (s : S) (a v : Int) : s.done.length ≤ (put s a v).1.done.length := by
  rcases put_cases s a v with h | ⟨c, h, _⟩
  · rw [h]; exact Nat.le_refl _
  · rw [h]; simp
theorem undoTo_put {s : S} (a v : Int) {m : Nat} (hm : m ≤ s.done.length) :
    undoTo m (put s a v).1.done.length (put s a v).1 = undoTo m s.done.length s := by
  have hr := put_room s a v
  rcases put_cases s a v with h | ⟨c, h, hu⟩
  · rw [h]
  · rw [undoTo_step h m hm, hu]
    have hs : ({ (put s a v).1 with list := s.list, done := s.done } : S) = s := by
      generalize (put s a v).1 = t at *
      cases s; cases t; simp_all
    rw [hs]
theorem puts_done (l : List (Int × Int)) : ∀ s : S, s.done.length ≤ (puts s l).done.length ∧ (puts s l).done.length ≤ s.done.length + l.length := by
  induction l with
  | nil => intro s; exact ⟨Nat.le_refl _, Nat.le_refl _⟩
  | cons e l ih =>
    intro s
    have h1 := put_done_ge s e.1 e.2
    have h2 := put_done_len s e.1 e.2
    have h3 := ih (put s e.1 e.2).1
    have e2 : puts s (e :: l) = puts (put s e.1 e.2).1 l := rfl
    rw [e2, List.length_cons]
    omega
theorem undoTo_puts (l : List (Int × Int)) : ∀ (s : S) {m : Nat}, m ≤ s.done.length → undoTo m (puts s l).done.length (puts s l) = undoTo m s.done.length s := by
  induction l with
  | nil => intro s m hm; rfl
  | cons e l ih =>
    intro s m hm
    have h1 := put_done_ge s e.1 e.2
    have e2 : puts s (e :: l) = puts (put s e.1 e.2).1 l := rfl
    rw [e2, ih _ (by omega), undoTo_put _ _ hm]
theorem back_puts (s : S) (l : List (Int × Int)) : back (puts s l) (s.done.length : Int) = (s, true) := by
  unfold back
  rw [if_neg (by have := (puts_done l s).1; omega), Int.toNat_natCast, undoTo_puts l s (Nat.le_refl _), undoTo_done _ (Nat.le_refl _)]
theorem puts_room (l : List (Int × Int)) : ∀ s : S, (puts s l).room = s.room := by
  induction l with
  | nil => intro s; rfl
  | cons e l ih =>
    intro s
    have e2 : puts s (e :: l) = puts (put s e.1 e.2).1 l := rfl
    rw [e2, ih, put_room]
/-- Is the entry there with that number? -/
def has (l : List (Int × Int)) (a v : Int) : Bool := l.any fun e => e.1 == a && e.2 == v
theorem has_take (l : List (Int × Int)) (a v : Int) {k : Nat} (hk : k < l.length) : has (l.take (k + 1)) a v = (has (l.take k) a v || (l[k].1 == a && l[k].2 == v)) := by
  unfold has
  rw [← List.take_append_getElem hk, List.any_append]
  simp
theorem get_has (s : S) (a : Int) : has s.list a (get s a).1 = (get s a).2 := by
  unfold get
  cases hx : idx s.list a with
  | some i =>
    obtain ⟨hi, ha⟩ := idx_some hx
    have e : s.list.getD i (0, 0) = s.list[i] := by simp [List.getD, hi]
    simp only [e]
    unfold has
    rw [List.any_eq_true]
    exact ⟨s.list[i], List.getElem_mem hi, by simp [ha]⟩
  | none =>
    simp only
    unfold has
    rw [List.any_eq_false]
    intro e he
    have := (idx_none_iff _ _).1 hx e he
    simp [this]
end Go.Tum.W
namespace Go.Proofs.Ytdhcaelhjpgliaa
open Go.RowKit Go.Tum Go.Tum.W
/-- A slice of entries that came in. -/
def ArgRow (w : World) (v : Value) (l : List (Int × Int)) : Prop :=
  ∃ a cap, v = .slice a l.length cap ∧ (l = [] ∨ ∃ x : Addr, a = some x ∧ x.block < w.heap.size ∧ ∀ j u, (ents l)[j]? = some u → w.cell? (x.add j) = some u)
theorem ArgRow.fr {w w' : World} {v : Value} {l : List (Int × Int)} (h : ArgRow w v l) (f : Fr [] w w') : ArgRow w' v l := by
  obtain ⟨a, cap, e, h⟩ := h
  refine ⟨a, cap, e, h.imp id ?_⟩
  rintro ⟨x, e, hx, hc⟩
  exact ⟨x, e, Nat.lt_of_lt_of_le hx f.size, fun j u hj => f.cell (hc j u hj) (by simp)⟩
theorem ArgRow.len {w : World} {v : Value} {l : List (Int × Int)} (h : ArgRow w v l) : ∃ a cap, v = .slice a l.length cap := by
  obtain ⟨a, cap, e, _⟩ := h
  exact ⟨a, cap, e⟩
theorem ArgRow.at {w : World} {a : Option Addr} {n cap : Nat} {l : List (Int × Int)} (h : ArgRow w (.slice a n cap) l) {i : Nat} (hi : i < l.length) :
    ∃ x : Addr, a = some x ∧ x.block < w.heap.size ∧ w.cell? (x.add (i * 2)) = some (.int .i64 l[i].1) ∧ w.cell? ⟨(x.add (i * 2)).block, (x.add (i * 2)).off + 1, none⟩ = some (.int .u64 l[i].2) := by
  obtain ⟨a', cap', e, h⟩ := h
  simp only [Value.slice.injEq] at e
  obtain ⟨rfl, rfl, rfl⟩ := e
  rcases h with h | ⟨x, rfl, hx, hc⟩
  · subst h; simp at hi
  · refine ⟨x, rfl, hx, hc _ _ (ents_get l i hi).1, ?_⟩
    rw [← hc _ _ (ents_get l i hi).2]
    congr 1
    by_cases h0 : i * 2 = 0
    · simp [Addr.add, h0]
    · simp [Addr.add, h0, Nat.add_assoc]
theorem puts_step (s : S) (l : List (Int × Int)) {k : Nat} (hk : k < l.length) : W.puts s (l.take (k + 1)) = (W.put (W.puts s (l.take k)) l[k].1 l[k].2).1 := by
  rw [← List.take_append_getElem hk, puts_snoc]
theorem live_all100 {w0 w : World} {b : Nat} {fp : List Nat} {s : S} (h : Live w0 w b fp s) (hr : s.room ≤ 100) :
    Calls Try.prog 20 #[.pointer (some ⟨b, 0, none⟩), .int .i64 100] w fun e w' => ∃ v, e = .returned v ∧ Row w' w0.heap.size v s.list ∧ Fr [] w w' ∧ ∀ k, v.ownBlock = some k → w.heap.size ≤ k := by
  have h1 := live_all h 100
  have h2 := h.room_le
  rw [List.take_of_length_le (by show s.list.length ≤ 100; omega)] at h1
  exact h1
/-- A row beside a set: apart from what the set owns. -/
def Side (w0 w : World) (fp : List Nat) (v : Value) (l : List (Int × Int)) : Prop := Row w w0.heap.size v l ∧ ∀ k, v.ownBlock = some k → k ∉ fp
theorem Side.step {w0 w w' : World} {fp fp' : List Nat} {v : Value} {l : List (Int × Int)} (h : Side w0 w fp v l) (f : Fr fp w w') (hn : ∀ k ∈ fp', k ∈ fp ∨ w.heap.size ≤ k) : Side w0 w' fp' v l :=
  ⟨h.1.fr f h.2, fun k hk hk2 => by
    have h1 := (World.ownsRow.lt h.1 k hk).2
    rcases hn k hk2 with h2 | h2
    · exact h.2 k hk h2
    · omega⟩
theorem Side.fr0 {w0 w w' : World} {fp : List Nat} {v : Value} {l : List (Int × Int)} (h : Side w0 w fp v l) (f : Fr [] w w') : Side w0 w' fp v l :=
  ⟨h.1.fr f (by simp), h.2⟩
theorem Side.new {w0 w w' : World} {fp : List Nat} {v : Value} {l : List (Int × Int)} {b : Nat} {s : S} (h : Live w0 w b fp s) (hr : Row w' w0.heap.size v l) (hk : ∀ k, v.ownBlock = some k → w.heap.size ≤ k) : Side w0 w' fp v l :=
  ⟨hr, fun k h1 h2 => by have := (h.1.lt k h2).2; have := hk k h1; omega⟩
end Go.Proofs.Ytdhcaelhjpgliaa
