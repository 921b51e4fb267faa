/- The plain side of package wset: entries, changes, the table; no program in sight. -/
import Derived.Test.YtccioehckfdjdaaMBase
namespace Go.Tum.W
open Go.Tum

structure S where
  room : Nat
  list : List (Int × Int)
  done : List (Int × Int × Bool)

def idx (l : List (Int × Int)) (a : Int) : Option Nat := l.findIdx? (fun e => e.1 == a)

theorem idx_some {l : List (Int × Int)} {a : Int} {i : Nat} (h : idx l a = some i) : ∃ hi : i < l.length, l[i].1 = a := by
  obtain ⟨hi, h1, _⟩ := List.findIdx?_eq_some_iff_getElem.1 h
  exact ⟨hi, by simpa using h1⟩
theorem idx_none {l : List (Int × Int)} {a : Int} (h : idx l a = none) : ∀ i (hi : i < l.length), l[i].1 ≠ a := by
  intro i hi e
  have := List.findIdx?_eq_none_iff.1 h l[i] (List.getElem_mem hi)
  simp [e] at this

/-- What Put makes of it. -/
def put (s : S) (a v : Int) : S × Int :=
  match idx s.list a with
  | some i => ({ s with list := s.list.set i (a, v), done := s.done ++ [((i : Int), (s.list.getD i (0, 0)).2, false)] }, 0)
  | none => if s.room ≤ s.list.length then (s, 6) else ({ s with list := s.list ++ [(a, v)], done := s.done ++ [((s.list.length : Int), 0, true)] }, 0)

/-- What Get tells. -/
def get (s : S) (a : Int) : Int × Bool :=
  match idx s.list a with
  | some i => ((s.list.getD i (0, 0)).2, true)
  | none => (0, false)

/-- One change undone. -/
def undo (l : List (Int × Int)) (c : Int × Int × Bool) : List (Int × Int) :=
  if c.2.2 then l.take c.1.toNat else l.set c.1.toNat ((l.getD c.1.toNat (0, 0)).1, c.2.1)

/-- All changes behind the mark undone. -/
def undoTo (m : Nat) : Nat → S → S
  | 0, s => s
  | f + 1, s => if s.done.length ≤ m then s else undoTo m f { s with list := undo s.list (s.done.getLastD (0, 0, false)), done := s.done.dropLast }

def back (s : S) (m : Int) : S × Bool :=
  if m < 0 ∨ (s.done.length : Int) < m then (s, false) else (undoTo m.toNat s.done.length s, true)

/-! ### the table -/
/-- Where the search for a cell begins, in a table of m places. -/
def hash (m : Nat) (a : Int) : Nat :=
  (bits BinOp.and IntKind.i64 (RowKit.wrap64 (IntKind.u64.wrap (IntKind.u64.wrap a * 11400714819323198485) / 1099511627776)) ((m : Int) - 1)).toNat

theorem hash_spec (m : Nat) (a : Int) (h0 : 0 < m) (h1 : m ≤ 1000000) :
    bits BinOp.and IntKind.i64 (RowKit.wrap64 (IntKind.u64.wrap (IntKind.u64.wrap a * 11400714819323198485) / 1099511627776)) ((m : Int) - 1) = ((hash m a : Nat) : Int) ∧ hash m a < m := by
  have := and_i64_bd (RowKit.wrap64 (IntKind.u64.wrap (IntKind.u64.wrap a * 11400714819323198485) / 1099511627776)) ((m : Int) - 1) (by omega) (by omega)
  unfold hash
  generalize bits BinOp.and IntKind.i64 (RowKit.wrap64 (IntKind.u64.wrap (IntKind.u64.wrap a * 11400714819323198485) / 1099511627776)) ((m : Int) - 1) = z at *
  omega

/-- The table's m places hold what they must: entry i stands at place 'pos i', and ahead of it on its way stand entries older than it. -/
structure TabOK (m : Nat) (tab : List Int) (l : List (Int × Int)) (pos : Nat → Nat) : Prop where
  len : tab.length = m
  pow : ∃ p, m = 2 ^ p
  pos0 : 0 < m
  bound : m ≤ 1000000
  few : l.length < m
  distinct : ∀ i j (hi : i < l.length) (hj : j < l.length), l[i].1 = l[j].1 → i = j
  lt : ∀ i, i < l.length → pos i < m
  at_ : ∀ i, i < l.length → tab[pos i]? = some ((i : Int) + 1)
  only : ∀ k, k < m → tab[k]? = some 0 ∨ ∃ i, i < l.length ∧ pos i = k
  path : ∀ i (hi : i < l.length), ∃ d, d < m ∧ pos i = (hash m l[i].1 + d) % m ∧ ∀ d', d' < d → ∃ j, j < i ∧ pos j = (hash m l[i].1 + d') % m

theorem TabOK.inj {m : Nat} {tab : List Int} {l : List (Int × Int)} {pos : Nat → Nat} (h : TabOK m tab l pos) {i j : Nat} (hi : i < l.length) (hj : j < l.length) (e : pos i = pos j) : i = j := by
  have h1 := h.at_ i hi
  have h2 := h.at_ j hj
  rw [e, h2] at h1
  simp at h1
  omega

/-- A free place, so many steps behind any beginning. -/
theorem TabOK.free {m : Nat} {tab : List Int} {l : List (Int × Int)} {pos : Nat → Nat} (h : TabOK m tab l pos) (h0 : Nat) : ∃ d, d < m ∧ tab[(h0 + d) % m]? = some 0 := by
  apply Classical.byContradiction
  intro hn
  have hall : ∀ k, k < m → ∃ i, i < l.length ∧ pos i = k := by
    intro k hk
    rcases h.only k hk with h1 | h1
    · exfalso
      refine hn ⟨(k + (m - h0 % m)) % m, Nat.mod_lt _ h.pos0, ?_⟩
      have : (h0 + (k + (m - h0 % m)) % m) % m = k := by
        have hlt := Nat.mod_lt h0 h.pos0
        rw [Nat.add_mod, Nat.mod_mod, ← Nat.add_mod]
        have e : h0 + (k + (m - h0 % m)) = k + m * (h0 / m + 1) := by
          have := Nat.div_add_mod h0 m
          rw [Nat.mul_add, Nat.mul_one]
          omega
        rw [e, Nat.add_mul_mod_self_left, Nat.mod_eq_of_lt hk]
      rw [this]; exact h1
    · exact h1
  have hsub : List.range m ⊆ (List.range l.length).map pos := by
    intro k hk
    obtain ⟨i, hi, e⟩ := hall k (by simpa using hk)
    exact List.mem_map.2 ⟨i, by simpa using hi, e⟩
  have := List.Nodup.length_le_of_subset List.nodup_range hsub
  simp at this
  have := h.few
  omega

/-- Where the search for a ends. -/
def Slot (m : Nat) (tab : List Int) (l : List (Int × Int)) (pos : Nat → Nat) (a : Int) (k : Nat) : Prop :=
  k < m ∧ ((∃ i, idx l a = some i ∧ pos i = k ∧ i < l.length ∧ tab[k]? = some ((i : Int) + 1)) ∨
    (idx l a = none ∧ tab[k]? = some 0 ∧ ∃ d, d < m ∧ k = (hash m a + d) % m ∧ ∀ d', d' < d → ∃ j, j < l.length ∧ pos j = (hash m a + d') % m))

theorem idx_of {l : List (Int × Int)} (hd : ∀ i j (hi : i < l.length) (hj : j < l.length), l[i].1 = l[j].1 → i = j) {i : Nat} (hi : i < l.length) {a : Int} (e : l[i].1 = a) : idx l a = some i := by
  cases hx : idx l a with
  | none => exact absurd e (idx_none hx i hi)
  | some j =>
    obtain ⟨hj, ej⟩ := idx_some hx
    rw [hd i j hi hj (by rw [e, ej])]

/-- The search stops at a place: it is the one. -/
theorem TabOK.slot_zero {m : Nat} {tab : List Int} {l : List (Int × Int)} {pos : Nat → Nat} (h : TabOK m tab l pos) {a : Int} {d : Nat} (hd : d < m)
    (hw : ∀ d', d' < d → ∃ j, ∃ hj : j < l.length, pos j = (hash m a + d') % m ∧ l[j].1 ≠ a) (h0 : tab[(hash m a + d) % m]? = some 0) : Slot m tab l pos a ((hash m a + d) % m) := by
  refine ⟨Nat.mod_lt _ h.pos0, .inr ⟨?_, h0, d, hd, rfl, fun d' hd' => by obtain ⟨j, hj, e, _⟩ := hw d' hd'; exact ⟨j, hj, e⟩⟩⟩
  cases hx : idx l a with
  | none => rfl
  | some i =>
    exfalso
    obtain ⟨hi, ei⟩ := idx_some hx
    obtain ⟨di, hdi, ep, hpath⟩ := h.path i hi
    rw [ei] at ep hpath
    have hne : di ≠ d := fun e => by
      have := h.at_ i hi
      rw [ep, e, h0] at this
      simp at this; omega
    rcases Nat.lt_or_ge di d with hlt | hge
    · obtain ⟨j, hj, ej, hnj⟩ := hw di hlt
      have : i = j := h.inj hi hj (by rw [ep, ej])
      subst this
      exact hnj ei
    · obtain ⟨j, hj, ej⟩ := hpath d (by omega)
      have := h.at_ j (by omega)
      rw [ej, h0] at this
      simp at this; omega

theorem TabOK.slot_hit {m : Nat} {tab : List Int} {l : List (Int × Int)} {pos : Nat → Nat} (h : TabOK m tab l pos) {a : Int} {i : Nat} (hi : i < l.length) (e : l[i].1 = a) : Slot m tab l pos a (pos i) :=
  ⟨h.lt i hi, .inl ⟨i, idx_of h.distinct hi e, rfl, hi, h.at_ i hi⟩⟩

/-- An entry is turned. -/
theorem TabOK.set {m : Nat} {tab : List Int} {l : List (Int × Int)} {pos : Nat → Nat} (h : TabOK m tab l pos) (i : Nat) (v : Int) : TabOK m tab (l.set i ((l.getD i (0, 0)).1, v)) pos := by
  have hf : ∀ j (hj : j < (l.set i ((l.getD i (0, 0)).1, v)).length), (l.set i ((l.getD i (0, 0)).1, v))[j].1 = (l[j]'(by simpa using hj)).1 := by
    intro j hj
    rw [List.getElem_set]
    split
    · rename_i e; subst e
      have hj' : i < l.length := by simpa using hj
      simp [List.getD, hj']
    · rfl
  refine { h with few := by simpa using h.few, distinct := ?_, lt := by simpa using h.lt, at_ := by simpa using h.at_, only := by simpa using h.only, path := ?_ }
  · intro j k hj hk e
    rw [hf j hj, hf k hk] at e
    exact h.distinct j k (by simpa using hj) (by simpa using hk) e
  · intro j hj
    rw [hf j hj]
    exact h.path j (by simpa using hj)

/-- A new entry at the free place where the search ended. -/
theorem TabOK.push {m : Nat} {tab : List Int} {l : List (Int × Int)} {pos : Nat → Nat} (h : TabOK m tab l pos) {a v : Int} {k : Nat}
    (hk : k < m) (hx : idx l a = none) (h0 : tab[k]? = some 0) (hw : ∃ d, d < m ∧ k = (hash m a + d) % m ∧ ∀ d', d' < d → ∃ j, j < l.length ∧ pos j = (hash m a + d') % m)
    (hfew : l.length + 1 < m) : TabOK m (tab.set k ((l.length : Int) + 1)) (l ++ [(a, v)]) (fun i => if i = l.length then k else pos i) := by
  have hne : ∀ i, i < l.length → pos i ≠ k := fun i hi e => by
    have := h.at_ i hi
    rw [e, h0] at this
    simp at this; omega
  have hL : (l ++ [(a, v)]).length = l.length + 1 := by simp
  have hg : ∀ i (hi : i < l.length), (l ++ [(a, v)])[i]'(by simp; omega) = l[i] := fun i hi => List.getElem_append_left hi
  have hgl : (l ++ [(a, v)])[l.length]'(by simp) = (a, v) := by simp
  refine ⟨by simpa using h.len, h.pow, h.pos0, h.bound, by omega, ?_, ?_, ?_, ?_, ?_⟩
  · intro i j hi hj e
    rw [hL] at hi hj
    rcases Nat.lt_or_ge i l.length with h1 | h1 <;> rcases Nat.lt_or_ge j l.length with h2 | h2
    · rw [hg i h1, hg j h2] at e; exact h.distinct i j h1 h2 e
    · obtain rfl : j = l.length := by omega
      rw [hg i h1, hgl] at e; exact absurd e (idx_none hx i h1)
    · obtain rfl : i = l.length := by omega
      rw [hg j h2, hgl] at e; exact absurd e.symm (idx_none hx j h2)
    · omega
  · intro i hi
    rw [hL] at hi
    try dsimp only
    split
    · exact hk
    · exact h.lt i (by omega)
  · intro i hi
    rw [hL] at hi
    try dsimp only
    split
    · rename_i e; subst e; rw [List.getElem?_set_self (by rw [h.len]; exact hk)]
    · rw [List.getElem?_set_ne (fun e => hne i (by omega) e.symm)]; exact h.at_ i (by omega)
  · intro k' hk'
    by_cases e : k' = k
    · subst e; exact .inr ⟨l.length, by omega, by simp⟩
    · rw [List.getElem?_set_ne (fun x => e x.symm)]
      rcases h.only k' hk' with h1 | ⟨i, hi, ei⟩
      · exact .inl h1
      · exact .inr ⟨i, by omega, by (try dsimp only); rw [if_neg (by omega)]; exact ei⟩
  · intro i hi
    rw [hL] at hi
    rcases Nat.lt_or_ge i l.length with h1 | h1
    · rw [hg i h1]
      obtain ⟨d, hd, e1, e2⟩ := h.path i h1
      refine ⟨d, hd, by (try dsimp only); rw [if_neg (by omega)]; exact e1, fun d' hd' => ?_⟩
      obtain ⟨j, hj, ej⟩ := e2 d' hd'
      exact ⟨j, hj, by (try dsimp only); rw [if_neg (by omega)]; exact ej⟩
    · obtain rfl : i = l.length := by omega
      rw [hgl]
      obtain ⟨d, hd, e1, e2⟩ := hw
      refine ⟨d, hd, by (try dsimp only); rw [if_pos rfl]; exact e1, fun d' hd' => ?_⟩
      obtain ⟨j, hj, ej⟩ := e2 d' hd'
      exact ⟨j, hj, by (try dsimp only); rw [if_neg (by omega)]; exact ej⟩

/-- The last entry goes. -/
theorem TabOK.pop {m : Nat} {tab : List Int} {l : List (Int × Int)} {pos : Nat → Nat} (h : TabOK m tab l pos) {n : Nat} (hn : l.length = n + 1) :
    TabOK m (tab.set (pos n) 0) (l.take n) pos := by
  have hL : (l.take n).length = n := by simp; omega
  have hg : ∀ i (hi : i < n), (l.take n)[i]'(by omega) = l[i]'(by omega) := fun i hi => List.getElem_take
  refine ⟨by simpa using h.len, h.pow, h.pos0, h.bound, by rw [hL]; have := h.few; omega, ?_, ?_, ?_, ?_, ?_⟩
  · intro i j hi hj e
    rw [hL] at hi hj
    rw [hg i hi, hg j hj] at e
    exact h.distinct i j _ _ e
  · intro i hi; rw [hL] at hi; exact h.lt i (by omega)
  · intro i hi
    rw [hL] at hi
    rw [List.getElem?_set_ne (fun e => by have := h.inj (i := n) (j := i) (by omega) (by omega) e; omega)]
    exact h.at_ i (by omega)
  · intro k hk
    by_cases e : pos n = k
    · subst e; exact .inl (List.getElem?_set_self (by rw [h.len]; exact hk))
    · rw [List.getElem?_set_ne e]
      rcases h.only k hk with h1 | ⟨i, hi, ei⟩
      · exact .inl h1
      · have : i ≠ n := fun x => e (by rw [← x]; exact ei)
        exact .inr ⟨i, by omega, ei⟩
  · intro i hi
    rw [hL] at hi
    rw [hg i hi]
    exact h.path i (by omega)

theorem TabOK.new (p : Nat) (hp : 2 ^ p ≤ 1000000) : TabOK (2 ^ p) (List.replicate (2 ^ p) 0) [] (fun _ => 0) := by
  have h0 : 0 < (2 : Nat) ^ p := Nat.two_pow_pos p
  exact ⟨by simp, ⟨p, rfl⟩, h0, hp, by simpa using h0, fun i j hi => by simp at hi, fun i hi => by simp at hi, fun i hi => by simp at hi,
    fun k hk => .inl (by simp [hk]), fun i hi => by simp at hi⟩


/-! ### the changes fit the entries -/
def validC (l : List (Int × Int)) (c : Int × Int × Bool) : Prop := ∃ k : Nat, c.1 = k ∧ if c.2.2 then k + 1 = l.length else k < l.length
def Hist : List (Int × Int × Bool) → List (Int × Int) → Prop
  | [], l => l = []
  | c :: r, l => validC l c ∧ Hist r (undo l c)
def Good (s : S) : Prop := Hist s.done.reverse s.list

theorem undo_hit {l : List (Int × Int)} {i : Nat} {a v : Int} (hi : i < l.length) (ha : l[i].1 = a) : undo (l.set i (a, v)) ((i : Int), l[i].2, false) = l := by
  have hi2 : i < (l.set i (a, v)).length := by simpa using hi
  simp only [undo, Bool.false_eq_true, if_false, Int.toNat_natCast, List.set_set]
  rw [show ((l.set i (a, v)).getD i (0, 0)).1 = a from by simp [List.getD, hi]]
  rw [← ha]
  exact List.set_getElem_self hi

theorem undo_new (l : List (Int × Int)) (a v : Int) : undo (l ++ [(a, v)]) ((l.length : Int), 0, true) = l := by
  simp [undo]

theorem good_put {s : S} (h : Good s) (a v : Int) : Good (put s a v).1 := by
  unfold put
  split
  · rename_i i hx
    obtain ⟨hi, ha⟩ := idx_some hx
    have e : s.list.getD i (0, 0) = s.list[i] := by simp [List.getD, hi]
    simp only [Good, List.reverse_append, List.reverse_cons, List.reverse_nil, List.nil_append, List.singleton_append, Hist, e]
    exact ⟨⟨i, rfl, by simpa using hi⟩, by rw [undo_hit hi ha]; exact h⟩
  · split
    · exact h
    · simp only [Good, List.reverse_append, List.reverse_cons, List.reverse_nil, List.nil_append, List.singleton_append, Hist]
      exact ⟨⟨s.list.length, rfl, by simp⟩, by rw [undo_new]; exact h⟩

theorem good_new (r : Nat) : Good ⟨r, [], []⟩ := rfl

/-- The last change, and what is behind it. -/
theorem done_last {s : S} (h : 0 < s.done.length) : ∃ dr c, s.done = dr ++ [c] :=
  ⟨s.done.dropLast, s.done.getLast (by intro e; simp [e] at h), (List.dropLast_concat_getLast _).symm⟩

theorem good_step {s : S} {dr : List (Int × Int × Bool)} {c : Int × Int × Bool} (h : Good s) (hd : s.done = dr ++ [c]) : validC s.list c ∧ Good { s with list := undo s.list c, done := dr } := by
  unfold Good at h ⊢
  rw [hd, List.reverse_append] at h
  exact h

theorem undoTo_step {s : S} {dr : List (Int × Int × Bool)} {c : Int × Int × Bool} (hd : s.done = dr ++ [c]) (m : Nat) (hm : m ≤ dr.length) : undoTo m s.done.length s = undoTo m dr.length { s with list := undo s.list c, done := dr } := by
  have hl : s.done.length = dr.length + 1 := by rw [hd]; simp
  rw [hl]
  simp only [undoTo]
  rw [if_neg (by omega)]
  rw [show s.done.getLastD (0, 0, false) = c from by rw [hd]; simp, show s.done.dropLast = dr from by rw [hd]; simp]

theorem undoTo_done {s : S} (f : Nat) {m : Nat} (hm : s.done.length ≤ m) : undoTo m f s = s := by
  cases f with
  | zero => rfl
  | succ f => simp only [undoTo]; rw [if_pos hm]

end Go.Tum.W
