/- What Put and Back make of a *Set in memory, stated of worlds alone. -/
import Derived.Test.YtccioehckfdjdaaWrep
import Derived.Test.YtccioehckfdjdaaPush
namespace Go.Tum.W
open Go.Tum Go.RowKit

def fpOf (b : Nat) (vl vt vd : Value) : List Nat := b :: (vl.ownBlock.toList ++ vt.ownBlock.toList ++ vd.ownBlock.toList)
theorem mem_fpOf {b : Nat} {vl vt vd : Value} {k : Nat} : k ∈ fpOf b vl vt vd ↔ k = b ∨ vl.ownBlock = some k ∨ vt.ownBlock = some k ∨ vd.ownBlock = some k := by
  simp [fpOf]

/-- A *Set at block b that owns the blocks fp. -/
def IsSet (w : World) (base b : Nat) (fp : List Nat) (s : S) : Prop :=
  ∃ vl vt vd m tab pos, SetAt w base b vl vt vd m tab pos s ∧ fp = fpOf b vl vt vd

theorem SetAt.lt_fp {w : World} {base b : Nat} {vl vt vd : Value} {m : Nat} {tab : List Int} {pos : Nat → Nat} {s : S} (h : SetAt w base b vl vt vd m tab pos s) :
    ∀ k ∈ fpOf b vl vt vd, base ≤ k ∧ k < w.heap.size := by
  intro k hk
  rcases mem_fpOf.1 hk with rfl | h1 | h1 | h1
  · exact ⟨h.hb, h.blk.lt⟩
  · exact h.rlist.lt k h1
  · exact h.rtab.lt k h1
  · exact h.rdone.lt k h1

theorem IsSet.lt {w : World} {base b : Nat} {fp : List Nat} {s : S} (h : IsSet w base b fp s) : ∀ k ∈ fp, base ≤ k ∧ k < w.heap.size := by
  obtain ⟨vl, vt, vd, m, tab, pos, hs, rfl⟩ := h
  exact hs.lt_fp

theorem SetAt.fr {fp : List Nat} {w w' : World} {base b : Nat} {vl vt vd : Value} {m : Nat} {tab : List Int} {pos : Nat → Nat} {s : S} (h : SetAt w base b vl vt vd m tab pos s) (f : Fr fp w w')
    (hn : ∀ k ∈ fpOf b vl vt vd, k ∉ fp) : SetAt w' base b vl vt vd m tab pos s :=
  { h with
    blk := h.blk.fr f (hn b (mem_fpOf.2 (.inl rfl)))
    rlist := ownsRow_fr h.rlist f (fun k e => hn k (mem_fpOf.2 (.inr (.inl e))))
    rtab := ownsRow_fr h.rtab f (fun k e => hn k (mem_fpOf.2 (.inr (.inr (.inl e)))))
    rdone := ownsRow_fr h.rdone f (fun k e => hn k (mem_fpOf.2 (.inr (.inr (.inr e))))) }

/-- A set stays what it is where nothing of its own is turned. -/
theorem IsSet.fr {fp fp' : List Nat} {w w' : World} {base b : Nat} {s : S} (h : IsSet w base b fp s) (f : Fr fp' w w') (hn : ∀ k ∈ fp, k ∉ fp') : IsSet w' base b fp s := by
  obtain ⟨vl, vt, vd, m, tab, pos, hs, rfl⟩ := h
  exact ⟨vl, vt, vd, m, tab, pos, hs.fr f hn, rfl⟩

/-- What a step of a set leaves: the set, what it owns now, the rest of memory. -/
def SetStep (w w' : World) (base b : Nat) (fp : List Nat) (s' : S) : Prop :=
  ∃ fp', IsSet w' base b fp' s' ∧ Fr fp w w' ∧ ∀ k ∈ fp', k ∈ fp ∨ w.heap.size ≤ k

/-- An entry that is there is turned. -/
theorem put_hit_close {w W0 w1 : World} {base b bl cl : Nat} {vt vd : Value} {m : Nat} {tab : List Int} {pos : Nat → Nat} {s : S} {a v old : Int} {i : Nat} {g c' : Nat}
    (h : SetAt w base b (.slice (some ⟨bl, 0, none⟩) s.list.length cl) vt vd m tab pos s) (hx : idx s.list a = some i) (hi : i < s.list.length) (ho : s.list[i].2 = old)
    (hf : Fr [] w W0) (hg : W0.grownBy w1 vd.ownBlock)
    (hd : w1.ownsRow base 174 3 (.slice (some ⟨g, 0, none⟩) (s.done.length + 1) c') (s.done.length + 1) (chs s.done ++ [.int .i64 (i : Int), .int .u64 old, .bool false]))
    (hgg : vd.ownBlock = some g ∨ w.heap.size ≤ g) :
    SetStep w ((w1.setCell ⟨b, 3, none⟩ (.slice (some ⟨g, 0, none⟩) (s.done.length + 1) c')).setCell ⟨bl, i * 2 + 1, none⟩ (.int .u64 v)) base b (fpOf b (.slice (some ⟨bl, 0, none⟩) s.list.length cl) vt vd) (put s a v).1 := by
  have hbl : bl < w.heap.size := (h.rlist.lt bl rfl).2
  have hblt := h.blk.lt
  have hnb : vd.ownBlock ≠ some b := h.bd
  have hblb : bl ≠ b := fun e => h.bl (by simp [Value.ownBlock, e])
  have hgb : g ≠ b := by rcases hgg with e | e; (intro e2; subst e2; exact hnb e); omega
  have hgbl : g ≠ bl := by
    rcases hgg with e | e
    · intro e2; subst e2
      rcases h.ld with e3 | e3
      · simp [Value.ownBlock] at e3
      · exact e3 (by rw [e]; rfl)
    · omega
  have hput : put s a v = ({ s with list := s.list.set i (a, v), done := s.done ++ [((i : Int), old, false)] }, 0) := by
    simp [put, hx, ← ho, List.getD, List.getElem?_eq_getElem hi]
  rw [hput]
  have hai : s.list[i].1 = a := (idx_some hx).2
  have hset : s.list.set i (a, v) = s.list.set i ((s.list.getD i (0, 0)).1, v) := by
    simp [List.getD, List.getElem?_eq_getElem hi, hai]
  have hld : vd.ownBlock ≠ some bl := fun e => by
    rcases h.ld with e3 | e3
    · simp [Value.ownBlock] at e3
    · exact e3 (by rw [e]; rfl)
  have htd : vt.ownBlock ≠ vd.ownBlock := fun e => by
    rcases h.dt with e3 | e3
    · obtain ⟨bt, c, rfl, _⟩ := h.vt_form
      rw [e3] at e; simp [Value.ownBlock] at e
    · exact e3 e.symm
  have htl : vt.ownBlock ≠ some bl := fun e => by
    rcases h.lt with e3 | e3
    · simp [Value.ownBlock] at e3
    · exact e3 (by rw [e]; rfl)
  refine ⟨_, ⟨.slice (some ⟨bl, 0, none⟩) s.list.length cl, vt, .slice (some ⟨g, 0, none⟩) (s.done.length + 1) c', m, tab, pos, ?_, rfl⟩, ?_, ?_⟩
  · refine ⟨h.hb, ?_, ?_, ?_, ?_, ?_, h.room, by simpa using h.few, h.big, h.two, h.bl, h.bt, by simpa [Value.ownBlock] using hgb, h.lt, .inr (by simpa [Value.ownBlock] using Ne.symm hgbl), .inr ?_⟩
    · exact (((h.blk.fr hf (by simp)).grown hg (fun e => hnb e.symm)).set 3 _).setOther _ (Ne.symm hblb)
    · have h1 := ownsRow_fr h.rlist hf (fun _ _ => by simp)
      have h2 := h1.kept hg (.inr (by simpa [Value.ownBlock] using Ne.symm hld))
      have h3 := ownsRow_setCell h2 (a := ⟨b, 3, none⟩) (by simpa [Value.ownBlock] using hblb) (.slice (some ⟨g, 0, none⟩) (s.done.length + 1) c')
      have h4 := ownsRow_set h3 (i * 2 + 1) (.int .u64 v)
      rw [ents_set, ← hset] at h4
      simpa using h4
    · have h1 := ownsRow_fr h.rtab hf (fun _ _ => by simp)
      have h2 := h1.kept hg (.inr htd)
      exact ownsRow_setCell (ownsRow_setCell h2 (a := ⟨b, 3, none⟩) h.bt _) (a := ⟨bl, i * 2 + 1, none⟩) htl _
    · have h1 := ownsRow_setCell (ownsRow_setCell hd (a := ⟨b, 3, none⟩) (by simpa [Value.ownBlock] using hgb) (.slice (some ⟨g, 0, none⟩) (s.done.length + 1) c')) (a := ⟨bl, i * 2 + 1, none⟩) (by simpa [Value.ownBlock] using hgbl) (.int .u64 v)
      simpa [chs] using h1
    · rw [hset]; exact h.ok.set i v
    · intro e
      rcases hgg with e1 | e1
      · exact htd (by rw [← e, e1]; rfl)
      · have := (h.rtab.lt g (by rw [← e]; rfl)).2; omega
  · refine ((((hf.mono (fun _ h => by simp at h)).grown hg (fun k e => .inl (mem_fpOf.2 (.inr (.inr (.inr e)))))).setCell (p := ⟨b, 3, none⟩) (.inl (mem_fpOf.2 (.inl rfl))) _).setCell (p := ⟨bl, i * 2 + 1, none⟩) (.inl (mem_fpOf.2 (.inr (.inl rfl)))) _)
  · intro k hk
    rcases mem_fpOf.1 hk with e | e | e | e
    · exact .inl (mem_fpOf.2 (.inl e))
    · exact .inl (mem_fpOf.2 (.inr (.inl e)))
    · exact .inl (mem_fpOf.2 (.inr (.inr (.inl e))))
    · simp [Value.ownBlock] at e
      subst e
      rcases hgg with e1 | e1
      · exact .inl (mem_fpOf.2 (.inr (.inr (.inr e1))))
      · exact .inr e1

/-- A new entry. -/
theorem put_new_close {w W0 w1 W2 w3 : World} {base b bt ct : Nat} {vl vd : Value} {m : Nat} {tab : List Int} {pos : Nat → Nat} {s : S} {a v : Int} {k g c' g2 c2 : Nat}
    (h : SetAt w base b vl (.slice (some ⟨bt, 0, none⟩) m ct) vd m tab pos s) (hx : idx s.list a = none) (hroom : s.list.length < s.room)
    (hk : k < m) (h0 : tab[k]? = some 0) (hw : ∃ d, d < m ∧ k = (hash m a + d) % m ∧ ∀ d', d' < d → ∃ j, j < s.list.length ∧ pos j = (hash m a + d') % m)
    (hf : Fr [] w W0) (hg : W0.grownBy w1 vd.ownBlock)
    (hd : w1.ownsRow base 174 3 (.slice (some ⟨g, 0, none⟩) (s.done.length + 1) c') (s.done.length + 1) (chs s.done ++ [.int .i64 (s.list.length : Int), .int .u64 0, .bool true]))
    (hgg : vd.ownBlock = some g ∨ w.heap.size ≤ g)
    (hf2 : Fr [] (w1.setCell ⟨b, 3, none⟩ (.slice (some ⟨g, 0, none⟩) (s.done.length + 1) c')) W2) (hg2 : W2.grownBy w3 vl.ownBlock)
    (hl : w3.ownsRow base 136 2 (.slice (some ⟨g2, 0, none⟩) (s.list.length + 1) c2) (s.list.length + 1) (ents s.list ++ [.int .i64 a, .int .u64 v]))
    (hgg2 : vl.ownBlock = some g2 ∨ w1.heap.size ≤ g2) {z : World} (hz : Fr [] ((w3.setCell ⟨b, 1, none⟩ (.slice (some ⟨g2, 0, none⟩) (s.list.length + 1) c2))) z) :
    SetStep w (z.setCell ⟨bt, k, none⟩ (.int .i64 ((s.list.length : Int) + 1))) base b (fpOf b vl (.slice (some ⟨bt, 0, none⟩) m ct) vd) (put s a v).1 := by
  have hbt : bt < w.heap.size := (h.rtab.lt bt rfl).2
  have hblt := h.blk.lt
  have hnb : vd.ownBlock ≠ some b := h.bd
  have hlb : vl.ownBlock ≠ some b := h.bl
  have hbtb : bt ≠ b := fun e => h.bt (by simp [Value.ownBlock, e])
  have hs1 : w.heap.size ≤ w1.heap.size := Nat.le_trans hf.size hg.size
  have hgb : g ≠ b := by rcases hgg with e | e; (intro e2; subst e2; exact hnb e); omega
  have hg2b : g2 ≠ b := by rcases hgg2 with e | e; (intro e2; subst e2; exact hlb e); omega
  have hdt : vd.ownBlock ≠ some bt := fun e => by
    rcases h.dt with e3 | e3
    · rw [e] at e3; cases e3
    · exact e3 (by rw [e]; rfl)
  have hlt' : vl.ownBlock ≠ some bt := fun e => by
    rcases h.lt with e3 | e3
    · rw [e] at e3; cases e3
    · exact e3 (by rw [e]; rfl)
  have hgbt : g ≠ bt := by rcases hgg with e | e; (intro e2; subst e2; exact hdt e); omega
  have hg2bt : g2 ≠ bt := by rcases hgg2 with e | e; (intro e2; subst e2; exact hlt' e); omega
  have hglt : g < w1.heap.size := (hd.lt g rfl).2
  have hgl : vl.ownBlock ≠ some g := fun e => by
    have := (h.rlist.lt g e).2
    rcases hgg with e1 | e1
    · rcases h.ld with e3 | e3
      · rw [e] at e3; cases e3
      · exact e3 (by rw [e, e1])
    · omega
  have hgg2' : g2 ≠ g := by rcases hgg2 with e | e; (intro e2; subst e2; exact hgl e); omega
  have hld : vl.ownBlock = none ∨ vl.ownBlock ≠ vd.ownBlock := h.ld
  have hput : put s a v = ({ s with list := s.list ++ [(a, v)], done := s.done ++ [((s.list.length : Int), 0, true)] }, 0) := by
    simp [put, hx]; omega
  rw [hput]
  refine ⟨_, ⟨.slice (some ⟨g2, 0, none⟩) (s.list.length + 1) c2, .slice (some ⟨bt, 0, none⟩) m ct, .slice (some ⟨g, 0, none⟩) (s.done.length + 1) c', m, tab.set k ((s.list.length : Int) + 1), (fun i => if i = s.list.length then k else pos i), ?_, rfl⟩, ?_, ?_⟩
  · refine ⟨h.hb, ?_, ?_, ?_, ?_, ?_, h.room, by simp; omega, h.big, h.two, by simpa [Value.ownBlock] using hg2b, by simpa [Value.ownBlock] using hbtb, by simpa [Value.ownBlock] using hgb,
      .inr (by simpa [Value.ownBlock] using hg2bt), .inr (by simpa [Value.ownBlock] using hgg2'), .inr (by simpa [Value.ownBlock] using hgbt)⟩
    · have h1 := (((h.blk.fr hf (by simp)).grown hg (fun e => hnb e.symm)).set 3 (.slice (some ⟨g, 0, none⟩) (s.done.length + 1) c'))
      have h2 := ((h1.fr hf2 (by simp)).grown hg2 (fun e => hlb e.symm)).set 1 (.slice (some ⟨g2, 0, none⟩) (s.list.length + 1) c2)
      exact (h2.fr hz (by simp)).setOther _ (Ne.symm hbtb)
    · have h1 := ownsRow_setCell hl (a := ⟨b, 1, none⟩) (by simpa [Value.ownBlock] using hg2b) (.slice (some ⟨g2, 0, none⟩) (s.list.length + 1) c2)
      have h2 := ownsRow_fr h1 hz (fun _ _ => by simp)
      have h3 := ownsRow_setCell h2 (a := ⟨bt, k, none⟩) (by simpa [Value.ownBlock] using hg2bt) (.int .i64 ((s.list.length : Int) + 1))
      simpa [ents] using h3
    · have h1 := (ownsRow_fr h.rtab hf (fun _ _ => by simp)).kept hg (.inr (by simpa [Value.ownBlock] using Ne.symm hdt))
      have h2 := ownsRow_fr (ownsRow_setCell h1 (a := ⟨b, 3, none⟩) h.bt (.slice (some ⟨g, 0, none⟩) (s.done.length + 1) c')) hf2 (fun _ _ => by simp)
      have h3 := h2.kept hg2 (.inr (by simpa [Value.ownBlock] using Ne.symm hlt'))
      have h4 := ownsRow_fr (ownsRow_setCell h3 (a := ⟨b, 1, none⟩) h.bt (.slice (some ⟨g2, 0, none⟩) (s.list.length + 1) c2)) hz (fun _ _ => by simp)
      have h5 := ownsRow_set h4 k (.int .i64 ((s.list.length : Int) + 1))
      rw [List.map_set]
      exact h5
    · have h1 := ownsRow_setCell hd (a := ⟨b, 3, none⟩) (by simpa [Value.ownBlock] using hgb) (.slice (some ⟨g, 0, none⟩) (s.done.length + 1) c')
      have h2 := (ownsRow_fr h1 hf2 (fun _ _ => by simp)).kept hg2 (.inr (by simpa [Value.ownBlock] using Ne.symm hgl))
      have h4 := ownsRow_fr (ownsRow_setCell h2 (a := ⟨b, 1, none⟩) (by simpa [Value.ownBlock] using hgb) (.slice (some ⟨g2, 0, none⟩) (s.list.length + 1) c2)) hz (fun _ _ => by simp)
      have h5 := ownsRow_setCell h4 (a := ⟨bt, k, none⟩) (by simpa [Value.ownBlock] using hgbt) (.int .i64 ((s.list.length : Int) + 1))
      simpa [chs] using h5
    · exact h.ok.push hk hx h0 hw (by have := h.big; have := h.two; omega)
  · have hs2 := hf2.size
    have e1 : Fr (fpOf b vl (.slice (some ⟨bt, 0, none⟩) m ct) vd) w (w1.setCell ⟨b, 3, none⟩ (.slice (some ⟨g, 0, none⟩) (s.done.length + 1) c')) :=
      ((hf.mono (fun _ h => by simp at h)).grown hg (fun k e => .inl (mem_fpOf.2 (.inr (.inr (.inr e)))))).setCell (p := ⟨b, 3, none⟩) (.inl (mem_fpOf.2 (.inl rfl))) _
    have e2 := ((e1.trans (hf2.mono (fun _ h => by simp at h))).grown hg2 (fun k e => .inl (mem_fpOf.2 (.inr (.inl e))))).setCell (p := ⟨b, 1, none⟩) (.inl (mem_fpOf.2 (.inl rfl))) (.slice (some ⟨g2, 0, none⟩) (s.list.length + 1) c2)
    exact (e2.trans (hz.mono (fun _ h => by simp at h))).setCell (p := ⟨bt, k, none⟩) (.inl (mem_fpOf.2 (.inr (.inr (.inl rfl))))) _
  · intro x hx
    rcases mem_fpOf.1 hx with e | e | e | e
    · exact .inl (mem_fpOf.2 (.inl e))
    · simp [Value.ownBlock] at e
      subst e
      rcases hgg2 with e1 | e1
      · exact .inl (mem_fpOf.2 (.inr (.inl e1)))
      · exact .inr (by omega)
    · exact .inl (mem_fpOf.2 (.inr (.inr (.inl e))))
    · simp [Value.ownBlock] at e
      subst e
      rcases hgg with e1 | e1
      · exact .inl (mem_fpOf.2 (.inr (.inr (.inr e1))))
      · exact .inr e1

end Go.Tum.W
