/- How a *wset.Set lies in memory. -/
import Derived.Test.YtccioehckfdjdaaWplain
namespace Go.Tum.W
open Go.Tum Go.RowKit

/-- Entries, and changes, as cells. -/
def ents (l : List (Int × Int)) : List Value := l.flatMap fun e => [.int .i64 e.1, .int .u64 e.2]
def chs (l : List (Int × Int × Bool)) : List Value := l.flatMap fun c => [.int .i64 c.1, .int .u64 c.2.1, .bool c.2.2]

theorem ents_append (l l' : List (Int × Int)) : ents (l ++ l') = ents l ++ ents l' := List.flatMap_append
theorem chs_append (l l' : List (Int × Int × Bool)) : chs (l ++ l') = chs l ++ chs l' := List.flatMap_append
theorem ents_length (l : List (Int × Int)) : (ents l).length = l.length * 2 := by
  induction l with
  | nil => rfl
  | cons a l ih => simp only [ents, List.flatMap_cons, List.length_append] at *; simp [ih]; omega
theorem chs_length (l : List (Int × Int × Bool)) : (chs l).length = l.length * 3 := by
  induction l with
  | nil => rfl
  | cons a l ih => simp only [chs, List.flatMap_cons, List.length_append] at *; simp [ih]; omega
theorem ents_take (l : List (Int × Int)) : ∀ n, (ents l).take (n * 2) = ents (l.take n) := by
  induction l with
  | nil => intro n; simp [ents]
  | cons a l ih =>
    intro n
    cases n with
    | zero => simp [ents]
    | succ n =>
      have := ih n
      simp only [ents, List.flatMap_cons, List.take_succ_cons] at *
      rw [show (n + 1) * 2 = n * 2 + 1 + 1 from by omega]
      simpa using this
theorem chs_take (l : List (Int × Int × Bool)) : ∀ n, (chs l).take (n * 3) = chs (l.take n) := by
  induction l with
  | nil => intro n; simp [chs]
  | cons a l ih =>
    intro n
    cases n with
    | zero => simp [chs]
    | succ n =>
      have := ih n
      simp only [chs, List.flatMap_cons, List.take_succ_cons] at *
      rw [show (n + 1) * 3 = n * 3 + 1 + 1 + 1 from by omega]
      simpa using this
theorem ents_get (l : List (Int × Int)) : ∀ i (hi : i < l.length), (ents l)[i * 2]? = some (.int .i64 l[i].1) ∧ (ents l)[i * 2 + 1]? = some (.int .u64 l[i].2) := by
  induction l with
  | nil => intro i hi; simp at hi
  | cons a l ih =>
    intro i hi
    cases i with
    | zero => simp [ents]
    | succ i =>
      have := ih i (by simpa using hi)
      simp only [ents, List.flatMap_cons] at *
      rw [show (i + 1) * 2 = i * 2 + 1 + 1 from by omega]
      simpa using this
theorem chs_get (l : List (Int × Int × Bool)) : ∀ i (hi : i < l.length), (chs l)[i * 3]? = some (.int .i64 l[i].1) ∧ (chs l)[i * 3 + 1]? = some (.int .u64 l[i].2.1) ∧ (chs l)[i * 3 + 2]? = some (.bool l[i].2.2) := by
  induction l with
  | nil => intro i hi; simp at hi
  | cons a l ih =>
    intro i hi
    cases i with
    | zero => simp [chs]
    | succ i =>
      have := ih i (by simpa using hi)
      simp only [chs, List.flatMap_cons] at *
      rw [show (i + 1) * 3 = i * 3 + 1 + 1 + 1 from by omega]
      simpa using this
theorem ents_set (l : List (Int × Int)) : ∀ i v, (ents l).set (i * 2 + 1) (.int .u64 v) = ents (l.set i ((l.getD i (0, 0)).1, v)) := by
  induction l with
  | nil => intro i v; simp [ents]
  | cons a l ih =>
    intro i v
    cases i with
    | zero => simp [ents]
    | succ i =>
      have := ih i v
      simp only [ents, List.flatMap_cons, List.set_cons_succ] at *
      rw [show (i + 1) * 2 + 1 = (i * 2 + 1) + 1 + 1 from by omega]
      simpa using this

/-- A *Set at block b, its three slices, its table. -/
structure SetAt (w : World) (base b : Nat) (vl vt vd : Value) (m : Nat) (tab : List Int) (pos : Nat → Nat) (s : S) : Prop where
  hb : base ≤ b
  blk : Blk w b 168 [.int .i64 s.room, vl, vt, vd]
  rlist : w.ownsRow base 136 2 vl s.list.length (ents s.list)
  rtab : w.ownsRow base 3 1 vt m (tab.map (Value.int .i64))
  rdone : w.ownsRow base 174 3 vd s.done.length (chs s.done)
  ok : TabOK m tab s.list pos
  room : s.room ≤ 65536
  few : s.list.length ≤ s.room
  big : 2 * s.room ≤ m
  two : 2 ≤ m
  bl : vl.ownBlock ≠ some b
  bt : vt.ownBlock ≠ some b
  bd : vd.ownBlock ≠ some b
  lt : vl.ownBlock = none ∨ vl.ownBlock ≠ vt.ownBlock
  ld : vl.ownBlock = none ∨ vl.ownBlock ≠ vd.ownBlock
  dt : vd.ownBlock = none ∨ vd.ownBlock ≠ vt.ownBlock

theorem SetAt.vt_form {w : World} {base b : Nat} {vl vt vd : Value} {m : Nat} {tab : List Int} {pos : Nat → Nat} {s : S} (h : SetAt w base b vl vt vd m tab pos s) :
    ∃ bt c, vt = .slice (some ⟨bt, 0, none⟩) m c ∧ bt < w.heap.size ∧ base ≤ bt ∧ m ≤ c ∧ c ≤ maxLen := by
  rcases ownsRow_form h.rtab with ⟨_, h0⟩ | ⟨g, cap, h1, h2, h3, h4⟩
  · have := h.two; omega
  · exact ⟨g, cap, h1, h2, h3, h4⟩

theorem SetAt.vl_form {w : World} {base b : Nat} {vl vt vd : Value} {m : Nat} {tab : List Int} {pos : Nat → Nat} {s : S} (h : SetAt w base b vl vt vd m tab pos s) (hp : 0 < s.list.length) :
    ∃ bl c, vl = .slice (some ⟨bl, 0, none⟩) s.list.length c ∧ bl < w.heap.size ∧ base ≤ bl ∧ s.list.length ≤ c ∧ c ≤ maxLen := by
  rcases ownsRow_form h.rlist with ⟨_, h0⟩ | ⟨g, cap, h1, h2, h3, h4⟩
  · omega
  · exact ⟨g, cap, h1, h2, h3, h4⟩

theorem SetAt.drewN {w : World} {base b : Nat} {vl vt vd : Value} {m : Nat} {tab : List Int} {pos : Nat → Nat} {s : S} (h : SetAt w base b vl vt vd m tab pos s) (n : Nat) :
    SetAt (w.drewN n) base b vl vt vd m tab pos s :=
  { h with blk := h.blk.drewN n, rlist := ownsRow_fr h.rlist ((Fr.refl [] w).drewN n) (fun _ _ => by simp), rtab := ownsRow_fr h.rtab ((Fr.refl [] w).drewN n) (fun _ _ => by simp), rdone := ownsRow_fr h.rdone ((Fr.refl [] w).drewN n) (fun _ _ => by simp) }

/-- What the places hold, for the walk. -/
theorem SetAt.tab_cell {w : World} {base b : Nat} {vl vd : Value} {m bt c : Nat} {tab : List Int} {pos : Nat → Nat} {s : S} (h : SetAt w base b vl (.slice (some ⟨bt, 0, none⟩) m c) vd m tab pos s)
    {k : Nat} {x : Int} (hk : tab[k]? = some x) : w.cell? ⟨bt, k, none⟩ = some (.int .i64 x) :=
  ownsRow_cell h.rtab k _ (by simp [hk])

theorem SetAt.list_cell {w : World} {base b : Nat} {vt vd : Value} {m bl c : Nat} {tab : List Int} {pos : Nat → Nat} {s : S} (h : SetAt w base b (.slice (some ⟨bl, 0, none⟩) s.list.length c) vt vd m tab pos s)
    {i : Nat} (hi : i < s.list.length) : w.cell? ⟨bl, i * 2, none⟩ = some (.int .i64 s.list[i].1) ∧ w.cell? ⟨bl, i * 2 + 1, none⟩ = some (.int .u64 s.list[i].2) :=
  ⟨ownsRow_cell h.rlist _ _ (ents_get _ i hi).1, ownsRow_cell h.rlist _ _ (ents_get _ i hi).2⟩

end Go.Tum.W
