/- Sets that a call made, and what the law's closed example tells. -/
import Derived.Test.YtccioehckfdjdaaWback
import Derived.Test.YtccioehckfdjdaaMWb
import Derived.Test.YtccioehckfdjdaaRwalk
namespace Go.Tum.W
theorem undo_length {l : List (Int × Int)} {c : Int × Int × Bool} : (undo l c).length ≤ l.length := by
  unfold undo; split
  · simp; omega
  · simp
theorem good_undoTo (m : Nat) : ∀ (n : Nat) (s : S), s.done.length = n → Good s → Good (undoTo m s.done.length s) := by
  intro n
  induction n with
  | zero => intro s h g; rw [h]; exact g
  | succ n ih =>
    intro s h g
    by_cases hm : s.done.length ≤ m
    · rw [undoTo_done _ hm]; exact g
    · obtain ⟨dr, c, hd⟩ := done_last (s := s) (by omega)
      have hl : dr.length = n := by rw [hd] at h; simpa using h
      rw [undoTo_step hd m (by rw [hd] at hm; simp at hm; omega)]
      exact ih { s with list := undo s.list c, done := dr } hl (good_step g hd).2
theorem good_back {s : S} (h : Good s) (m : Int) : Good (back s m).1 := by
  unfold back; split
  · exact h
  · exact good_undoTo _ _ s rfl h
theorem undoTo_done_len (m : Nat) : ∀ (n : Nat) (s : S), s.done.length = n → (undoTo m s.done.length s).done.length = min m s.done.length := by
  intro n
  induction n with
  | zero => intro s h; rw [h]; simp [undoTo, h]
  | succ n ih =>
    intro s h
    by_cases hm : s.done.length ≤ m
    · rw [undoTo_done _ hm]; omega
    · obtain ⟨dr, c, hd⟩ := done_last (s := s) (by omega)
      have hl : dr.length = n := by rw [hd] at h; simpa using h
      rw [undoTo_step hd m (by rw [hd] at hm; simp at hm; omega), ih { s with list := undo s.list c, done := dr } hl, hd]
      simp; rw [hd] at hm; simp at hm; omega
theorem put_done_len (s : S) (a v : Int) : (put s a v).1.done.length ≤ s.done.length + 1 := by
  unfold put; repeat' split
  all_goals simp
theorem back_done_len (s : S) (m : Int) : (back s m).1.done.length ≤ s.done.length := by
  unfold back; split
  · simp
  · rw [undoTo_done_len _ _ s rfl]; omega
theorem put_room (s : S) (a v : Int) : (put s a v).1.room = s.room := by
  unfold put; repeat' split
  all_goals rfl
end Go.Tum.W
namespace Go.Proofs.Ytccioehckfdjdaa
open Go.RowKit Go.Tum Go.Tum.W

theorem SetAt.few' {w : World} {base b : Nat} {vl vt vd : Value} {m : Nat} {tab : List Int} {pos : Nat → Nat} {s : S} (h : SetAt w base b vl vt vd m tab pos s) : s.list.length ≤ 65536 := Nat.le_trans h.few h.room

/-- A set made behind the world w0. -/
def Live (w0 w : World) (b : Nat) (fp : List Nat) (s : S) : Prop := IsSet w w0.heap.size b fp s ∧ Fr [] w0 w ∧ W.Good s

theorem Live.room_le {w0 w : World} {b : Nat} {fp : List Nat} {s : S} (h : Live w0 w b fp s) : s.room ≤ 65536 ∧ s.list.length ≤ s.room := by
  obtain ⟨⟨vl, vt, vd, m, tab, pos, hs, rfl⟩, _⟩ := h
  exact ⟨hs.room, hs.few⟩
theorem Live.out {w0 w w' : World} {b : Nat} {fp : List Nat} {s : S} (h : Live w0 w b fp s) (f : Fr fp w w') : Fr [] w0 w' :=
  h.2.1.trans' f fun k hk => .inr (h.1.lt k hk).1
/-- A set stays what it is where another one's blocks are turned. -/
theorem Live.fr {w0 w w' : World} {b : Nat} {fp fp' : List Nat} {s : S} (h : Live w0 w b fp s) (f : Fr fp' w w') (hn : ∀ k ∈ fp, k ∉ fp') (hb : ∀ k ∈ fp', w0.heap.size ≤ k) : Live w0 w' b fp s :=
  ⟨h.1.fr f hn, h.2.1.trans' f fun k hk => .inr (hb k hk), h.2.2⟩
theorem Live.fr0 {w0 w w' : World} {b : Nat} {fp : List Nat} {s : S} (h : Live w0 w b fp s) (f : Fr [] w w') : Live w0 w' b fp s :=
  h.fr f (by simp) (by simp)
theorem Live.drewN {w0 w : World} {b : Nat} {fp : List Nat} {s : S} (h : Live w0 w b fp s) (n : Nat) : Live w0 (w.drewN n) b fp s := h.fr0 ((Fr.refl _ _).drewN n)

def LPut (w0 w : World) (b : Nat) (fp : List Nat) (s : S) (a v : Int) (e : Ending) (w' : World) : Prop :=
  e = .returned (.int .i64 (W.put s a v).2) ∧ ∃ fp', Live w0 w' b fp' (W.put s a v).1 ∧ Fr fp w w' ∧ ∀ k ∈ fp', k ∈ fp ∨ w.heap.size ≤ k
theorem live_put {w0 w : World} {b : Nat} {fp : List Nat} {s : S} (h : Live w0 w b fp s) (hd : s.done.length ≤ 1000000) (a v : Int) :
    Calls Try.prog 106 #[.pointer (some ⟨b, 0, none⟩), .int .i64 a, .int .u64 v] w (LPut w0 w b fp s a v) := by
  refine (put_any w0.heap.size b a v w fp s h.1 hd h.2.1.size).mono ?_
  rintro e w' ⟨h1, fp', h2, h3, h4⟩
  exact ⟨h1, fp', ⟨h2, h.out h3, good_put h.2.2 a v⟩, h3, h4⟩
theorem live_new {w0 w : World} (hf : Fr [] w0 w) (r : Int) :
    Calls Try.prog 34 #[.int .i64 r] w fun e w' => ∃ b fp, e = .returned (.pointer (some ⟨b, 0, none⟩)) ∧ Live w0 w' b fp ⟨roomOf r, [], []⟩ ∧ Fr [] w w' ∧ ∀ k ∈ fp, w.heap.size ≤ k := by
  refine (new_any w0.heap.size r w hf.size).mono ?_
  rintro e w' ⟨b, fp, h1, h2, h3, h4⟩
  exact ⟨b, fp, h1, ⟨h2, hf.trans h3, good_new _⟩, h3, h4⟩
theorem live_back {w0 w : World} {b : Nat} {fp : List Nat} {s : S} (h : Live w0 w b fp s) (hd : s.done.length ≤ 1000000) (m : Int) :
    Calls Try.prog 44 #[.pointer (some ⟨b, 0, none⟩), .int .i64 m] w fun e w' => e = .returned (.bool (W.back s m).2) ∧ Live w0 w' b fp (W.back s m).1 ∧ Fr fp w w' := by
  refine (back_any w0.heap.size b w fp s m h.1 h.2.2 hd).mono ?_
  rintro e w' ⟨h1, h2, h3⟩
  exact ⟨h1, ⟨h2, h.out h3, good_back h.2.2 m⟩, h3⟩
theorem live_get {w0 w : World} {b : Nat} {fp : List Nat} {s : S} (h : Live w0 w b fp s) (a : Int) :
    Calls Try.prog 36 #[.pointer (some ⟨b, 0, none⟩), .int .i64 a] w fun e w' => e = .returned (.tuple #[.int .u64 (W.get s a).1, .bool (W.get s a).2]) ∧ ∃ n, w' = w.drewN n :=
  get_any w0.heap.size b a w fp s h.1
theorem live_len {w0 w : World} {b : Nat} {fp : List Nat} {s : S} (h : Live w0 w b fp s) :
    Calls Try.prog 46 #[.pointer (some ⟨b, 0, none⟩)] w fun e w' => e = .returned (.int .i64 s.list.length) ∧ w = w' := len_any _ b w fp s h.1
theorem live_mark {w0 w : World} {b : Nat} {fp : List Nat} {s : S} (h : Live w0 w b fp s) :
    Calls Try.prog 39 #[.pointer (some ⟨b, 0, none⟩)] w fun e w' => e = .returned (.int .i64 s.done.length) ∧ w = w' := mark_any _ b w fp s h.1

theorem live_put_to {w0 w : World} {b : Nat} {fp : List Nat} {s s' : S} {a v r : Int} (h : Live w0 w b fp s) (e : W.put s a v = (s', r)) (hd : s.done.length ≤ 1000000) :
    Calls Try.prog 106 #[.pointer (some ⟨b, 0, none⟩), .int .i64 a, .int .u64 v] w fun e w' => e = .returned (.int .i64 r) ∧ ∃ fp', Live w0 w' b fp' s' ∧ Fr fp w w' ∧ ∀ k ∈ fp', k ∈ fp ∨ w.heap.size ≤ k := by
  have := live_put h hd a v
  unfold LPut at this
  rw [e] at this
  exact this
theorem live_back_to {w0 w : World} {b : Nat} {fp : List Nat} {s s' : S} {m : Int} {r : Bool} (h : Live w0 w b fp s) (e : W.back s m = (s', r)) (hd : s.done.length ≤ 1000000) :
    Calls Try.prog 44 #[.pointer (some ⟨b, 0, none⟩), .int .i64 m] w fun e w' => e = .returned (.bool r) ∧ Live w0 w' b fp s' ∧ Fr fp w w' := by
  have := live_back h hd m
  rw [e] at this
  exact this
theorem live_get_to {w0 w : World} {b : Nat} {fp : List Nat} {s : S} {a v : Int} {r : Bool} (h : Live w0 w b fp s) (e : W.get s a = (v, r)) :
    Calls Try.prog 36 #[.pointer (some ⟨b, 0, none⟩), .int .i64 a] w fun e w' => e = .returned (.tuple #[.int .u64 v, .bool r]) ∧ ∃ n, w' = w.drewN n := by
  have := live_get h a
  rw [e] at this
  exact this

end Go.Proofs.Ytccioehckfdjdaa
