/- What Back's steps make of a *Set in memory, stated of worlds alone. -/
import Derived.Test.YtccioehckfdjdaaWclose
namespace Go.Tum.W
open Go.Tum Go.RowKit

theorem SetAt.sep_ld {w : World} {base b : Nat} {vl vt vd : Value} {m : Nat} {tab : List Int} {pos : Nat → Nat} {s : S} (h : SetAt w base b vl vt vd m tab pos s) {k : Nat} (e : vl.ownBlock = some k) : vd.ownBlock ≠ some k := fun e2 => by
  rcases h.ld with e3 | e3
  · rw [e] at e3; cases e3
  · exact e3 (by rw [e, e2])
theorem SetAt.sep_lt {w : World} {base b : Nat} {vl vt vd : Value} {m : Nat} {tab : List Int} {pos : Nat → Nat} {s : S} (h : SetAt w base b vl vt vd m tab pos s) {k : Nat} (e : vl.ownBlock = some k) : vt.ownBlock ≠ some k := fun e2 => by
  rcases h.lt with e3 | e3
  · rw [e] at e3; cases e3
  · exact e3 (by rw [e, e2])
theorem SetAt.sep_dt {w : World} {base b : Nat} {vl vt vd : Value} {m : Nat} {tab : List Int} {pos : Nat → Nat} {s : S} (h : SetAt w base b vl vt vd m tab pos s) {k : Nat} (e : vd.ownBlock = some k) : vt.ownBlock ≠ some k := fun e2 => by
  rcases h.dt with e3 | e3
  · rw [e] at e3; cases e3
  · exact e3 (by rw [e, e2])

/-- The last change is dropped. -/
theorem SetAt.popd {w : World} {base b g n c : Nat} {vl vt : Value} {m : Nat} {tab : List Int} {pos : Nat → Nat} {s : S} {dr : List (Int × Int × Bool)} {x : Int × Int × Bool}
    (h : SetAt w base b vl vt (.slice (some ⟨g, 0, none⟩) (n + 1) c) m tab pos s) (hn : s.done.length = n + 1) (hd : s.done = dr ++ [x]) :
    SetAt (w.setCell ⟨b, 3, none⟩ (.slice (some ⟨g, 0, none⟩) n c)) base b vl vt (.slice (some ⟨g, 0, none⟩) n c) m tab pos { s with done := dr } := by
  have hgb : g ≠ b := fun e => h.bd (by simp [Value.ownBlock, e])
  have hdr : dr.length = n := by rw [hd] at hn; simpa using hn
  refine { h with blk := h.blk.set 3 _, rlist := ownsRow_setCell h.rlist (a := ⟨b, 3, none⟩) h.bl _, rtab := ownsRow_setCell h.rtab (a := ⟨b, 3, none⟩) h.bt _, rdone := ?_, bd := by simpa [Value.ownBlock] using hgb, ld := h.ld, dt := h.dt }
  have h1 := h.rdone
  rw [hn] at h1
  have h2 := ownsRow_cut h1 n (by omega)
  rw [chs_take, hd, List.take_left' hdr] at h2
  show World.ownsRow _ base _ 3 _ dr.length (chs dr)
  rw [hdr]
  exact ownsRow_setCell h2 (a := ⟨b, 3, none⟩) (by simpa [Value.ownBlock] using hgb) _

/-- An entry is set back. -/
theorem SetAt.setVal {w : World} {base b bl cl : Nat} {vt vd : Value} {m : Nat} {tab : List Int} {pos : Nat → Nat} {s : S}
    (h : SetAt w base b (.slice (some ⟨bl, 0, none⟩) s.list.length cl) vt vd m tab pos s) (k : Nat) (v : Int) :
    SetAt (w.setCell ⟨bl, k * 2 + 1, none⟩ (.int .u64 v)) base b (.slice (some ⟨bl, 0, none⟩) s.list.length cl) vt vd m tab pos { s with list := s.list.set k ((s.list.getD k (0, 0)).1, v) } := by
  have hblb : b ≠ bl := fun e => h.bl (by simp [Value.ownBlock, e])
  refine { h with blk := h.blk.setOther _ hblb, rlist := ?_, rtab := ownsRow_setCell h.rtab (a := ⟨bl, k * 2 + 1, none⟩) (h.sep_lt rfl) _, rdone := ownsRow_setCell h.rdone (a := ⟨bl, k * 2 + 1, none⟩) (h.sep_ld rfl) _, ok := h.ok.set k v, few := by simpa using h.few }
  have h1 := ownsRow_set h.rlist (k * 2 + 1) (.int .u64 v)
  rw [ents_set] at h1
  simpa using h1

/-- The last entry goes: its place in the table, then the list's end. -/
theorem SetAt.popl {w z : World} {base b bl cl bt c n : Nat} {vd : Value} {m : Nat} {tab : List Int} {pos : Nat → Nat} {s : S}
    (h : SetAt w base b (.slice (some ⟨bl, 0, none⟩) (n + 1) cl) (.slice (some ⟨bt, 0, none⟩) m c) vd m tab pos s) (hn : s.list.length = n + 1)
    (hz : Fr [] (w.setCell ⟨bt, pos n, none⟩ (.int .i64 0)) z) :
    SetAt (z.setCell ⟨b, 1, none⟩ (.slice (some ⟨bl, 0, none⟩) n cl)) base b (.slice (some ⟨bl, 0, none⟩) n cl) (.slice (some ⟨bt, 0, none⟩) m c) vd m (tab.set (pos n) 0) pos { s with list := s.list.take n } := by
  have hblb : bl ≠ b := fun e => h.bl (by simp [Value.ownBlock, e])
  have hbtb : bt ≠ b := fun e => h.bt (by simp [Value.ownBlock, e])
  have hlt : bt ≠ bl := fun e => h.sep_lt (k := bl) rfl (by simp [Value.ownBlock, e])
  have hlen : (s.list.take n).length = n := by simp; omega
  refine { h with blk := ((h.blk.setOther (a := ⟨bt, pos n, none⟩) _ (Ne.symm hbtb)).fr hz (by simp)).set 1 _, rlist := ?_, rtab := ?_, rdone := ?_, ok := h.ok.pop hn, few := by have := h.few; simp only [hlen]; omega, bl := by simpa [Value.ownBlock] using hblb, lt := h.lt, ld := h.ld }
  · have h1 := h.rlist
    rw [hn] at h1
    have h2 := ownsRow_cut h1 n (by omega)
    rw [ents_take] at h2
    show World.ownsRow _ base _ 2 _ (s.list.take n).length (ents (s.list.take n))
    rw [hlen]
    exact ownsRow_setCell (ownsRow_fr (ownsRow_setCell h2 (a := ⟨bt, pos n, none⟩) (by simpa [Value.ownBlock] using Ne.symm hlt) _) hz (fun _ _ => by simp)) (a := ⟨b, 1, none⟩) (by simpa [Value.ownBlock] using hblb) _
  · have h1 := ownsRow_fr (ownsRow_set h.rtab (pos n) (.int .i64 0)) hz (fun _ _ => by simp)
    rw [List.map_set]
    exact ownsRow_setCell h1 (a := ⟨b, 1, none⟩) h.bt _
  · exact ownsRow_setCell (ownsRow_fr (ownsRow_setCell h.rdone (a := ⟨bt, pos n, none⟩) (fun e => h.sep_dt e rfl) _) hz (fun _ _ => by simp)) (a := ⟨b, 1, none⟩) h.bd _

end Go.Tum.W
