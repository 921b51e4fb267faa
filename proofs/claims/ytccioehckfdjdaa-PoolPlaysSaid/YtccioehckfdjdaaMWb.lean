/- Several texts in one: Wbclose, Wget, Wnew, Wall. -/
import Derived.Test.YtccioehckfdjdaaMWa
import Derived.Test.YtccioehckfdjdaaWput
/- What Back's steps make of a *Set in memory, stated of worlds alone. -/
section
namespace Go.Tum.W
open Go.Tum Go.RowKit

theorem SetAt.sep_ld {w : World} {base b : Nat} {vl vt vd : Value} {m : Nat} {tab : List Int} {pos : Nat → Nat} {s : S} (h : SetAt w base b vl vt vd m tab pos s) {k : Nat} (e : vl.ownBlock = some k) : vd.ownBlock ≠ some k := fun e2 => by
  rcases h.ld with e3 | e3
  · rw [e] at e3; cases e3
  · exact e3 (by rw [e, e2])
theorem SetAt.sep_lt {w : World} {base b : Nat} {vl vt vd : Value} {m : Nat} {tab : List Int} {pos : Nat → Nat} {s : S} (h : SetAt w base b vl vt vd m tab pos s) {k : Nat} (e : vl.ownBlock = some k) : vt.ownBlock ≠ some k := fun e2 => by
  rcases h.lt with e3 | e3
  · rw [e] at e3; cases e3
  · exact e3 (by rw [e, e2])
theorem SetAt.sep_dt {w : World} {base b : Nat} {vl vt vd : Value} {m : Nat} {tab : List Int} {pos : Nat → Nat} {s : S} (h : SetAt w base b vl vt vd m tab pos s) {k : Nat} (e : vd.ownBlock = some k) : vt.ownBlock ≠ some k := fun e2 => by
  rcases h.dt with e3 | e3
  · rw [e] at e3; cases e3
  · exact e3 (by rw [e, e2])

/-- The last change is dropped. -/
theorem SetAt.popd {w : World} {base b g n c : Nat} {vl vt : Value} {m : Nat} {tab : List Int} {pos : Nat → Nat} {s : S} {dr : List (Int × Int × Bool)} {x : Int × Int × Bool}
    (h : SetAt w base b vl vt (.slice (some ⟨g, 0, none⟩) (n + 1) c) m tab pos s) (hn : s.done.length = n + 1) (hd : s.done = dr ++ [x]) :
    SetAt (w.setCell ⟨b, 3, none⟩ (.slice (some ⟨g, 0, none⟩) n c)) base b vl vt (.slice (some ⟨g, 0, none⟩) n c) m tab pos { s with done := dr } := by
  have hgb : g ≠ b := fun e => h.bd (by simp [Value.ownBlock, e])
  have hdr : dr.length = n := by rw [hd] at hn; simpa using hn
  refine { h with blk := h.blk.set 3 _, rlist := ownsRow_setCell h.rlist (a := ⟨b, 3, none⟩) h.bl _, rtab := ownsRow_setCell h.rtab (a := ⟨b, 3, none⟩) h.bt _, rdone := ?_, bd := by simpa [Value.ownBlock] using hgb, ld := h.ld, dt := h.dt }
  have h1 := h.rdone
  rw [hn] at h1
  have h2 := ownsRow_cut h1 n (by omega)
  rw [chs_take, hd, List.take_left' hdr] at h2
  show World.ownsRow _ base _ 3 _ dr.length (chs dr)
  rw [hdr]
  exact ownsRow_setCell h2 (a := ⟨b, 3, none⟩) (by simpa [Value.ownBlock] using hgb) _

/-- An entry is set back. -/
theorem SetAt.setVal {w : World} {base b bl cl : Nat} {vt vd : Value} {m : Nat} {tab : List Int} {pos : Nat → Nat} {s : S}
    (h : SetAt w base b (.slice (some ⟨bl, 0, none⟩) s.list.length cl) vt vd m tab pos s) (k : Nat) (v : Int) :
    SetAt (w.setCell ⟨bl, k * 2 + 1, none⟩ (.int .u64 v)) base b (.slice (some ⟨bl, 0, none⟩) s.list.length cl) vt vd m tab pos { s with list := s.list.set k ((s.list.getD k (0, 0)).1, v) } := by
  have hblb : b ≠ bl := fun e => h.bl (by simp [Value.ownBlock, e])
  refine { h with blk := h.blk.setOther _ hblb, rlist := ?_, rtab := ownsRow_setCell h.rtab (a := ⟨bl, k * 2 + 1, none⟩) (h.sep_lt rfl) _, rdone := ownsRow_setCell h.rdone (a := ⟨bl, k * 2 + 1, none⟩) (h.sep_ld rfl) _, ok := h.ok.set k v, few := by simpa using h.few }
  have h1 := ownsRow_set h.rlist (k * 2 + 1) (.int .u64 v)
  rw [ents_set] at h1
  simpa using h1

/-- The last entry goes: its place in the table, then the list's end. -/
theorem SetAt.popl {w z : World} {base b bl cl bt c n : Nat} {vd : Value} {m : Nat} {tab : List Int} {pos : Nat → Nat} {s : S}
    (h : SetAt w base b (.slice (some ⟨bl, 0, none⟩) (n + 1) cl) (.slice (some ⟨bt, 0, none⟩) m c) vd m tab pos s) (hn : s.list.length = n + 1)
    (hz : Fr [] (w.setCell ⟨bt, pos n, none⟩ (.int .i64 0)) z) :
    SetAt (z.setCell ⟨b, 1, none⟩ (.slice (some ⟨bl, 0, none⟩) n cl)) base b (.slice (some ⟨bl, 0, none⟩) n cl) (.slice (some ⟨bt, 0, none⟩) m c) vd m (tab.set (pos n) 0) pos { s with list := s.list.take n } := by
  have hblb : bl ≠ b := fun e => h.bl (by simp [Value.ownBlock, e])
  have hbtb : bt ≠ b := fun e => h.bt (by simp [Value.ownBlock, e])
  have hlt : bt ≠ bl := fun e => h.sep_lt (k := bl) rfl (by simp [Value.ownBlock, e])
  have hlen : (s.list.take n).length = n := by simp; omega
  refine { h with blk := ((h.blk.setOther (a := ⟨bt, pos n, none⟩) _ (Ne.symm hbtb)).fr hz (by simp)).set 1 _, rlist := ?_, rtab := ?_, rdone := ?_, ok := h.ok.pop hn, few := by have := h.few; simp only [hlen]; omega, bl := by simpa [Value.ownBlock] using hblb, lt := h.lt, ld := h.ld }
  · have h1 := h.rlist
    rw [hn] at h1
    have h2 := ownsRow_cut h1 n (by omega)
    rw [ents_take] at h2
    show World.ownsRow _ base _ 2 _ (s.list.take n).length (ents (s.list.take n))
    rw [hlen]
    exact ownsRow_setCell (ownsRow_fr (ownsRow_setCell h2 (a := ⟨bt, pos n, none⟩) (by simpa [Value.ownBlock] using Ne.symm hlt) _) hz (fun _ _ => by simp)) (a := ⟨b, 1, none⟩) (by simpa [Value.ownBlock] using hblb) _
  · have h1 := ownsRow_fr (ownsRow_set h.rtab (pos n) (.int .i64 0)) hz (fun _ _ => by simp)
    rw [List.map_set]
    exact ownsRow_setCell h1 (a := ⟨b, 1, none⟩) h.bt _
  · exact ownsRow_setCell (ownsRow_fr (ownsRow_setCell h.rdone (a := ⟨bt, pos n, none⟩) (fun e => h.sep_dt e rfl) _) hz (fun _ _ => by simp)) (a := ⟨b, 1, none⟩) h.bd _

end Go.Tum.W
end

/- The walks of (*wset.Set).Len, Room, Mark, Get. -/
section
namespace Go.Proofs.Ytccioehckfdjdaa
open Go.RowKit Go.Tum Go.Tum.W

theorem ownsRow_any {w : World} {base : Nat} {e : TypeId} {size : Nat} {v : Value} {n : Nat} {xs : List Value}
    (h : w.ownsRow base e size v n xs) : ∃ la lc, v = .slice la n lc := by
  rcases ownsRow_form h with ⟨e, e2⟩ | ⟨g, cap, e, _⟩
  · exact ⟨none, 0, by rw [e, e2]⟩
  · exact ⟨_, _, e⟩

set_option maxHeartbeats 400000 in
theorem len_any (base b : Nat) (w : World) (fp : List Nat) (s : S) (h : IsSet w base b fp s) :
    Calls Try.prog 46 #[.pointer (some ⟨b, 0, none⟩)] w fun e w' => e = .returned (.int .i64 s.list.length) ∧ w = w' := by
  obtain ⟨vl, vt, vd, m, tab, pos, h, rfl⟩ := h
  obtain ⟨la, lc, rfl⟩ := ownsRow_any h.rlist
  have h1 := h.blk.cell 1
  simp only [List.getElem?_cons_succ, List.getElem?_cons_zero] at h1
  clear h
  go_enter Try.func46, Try.ntmps46
  go_wp2
  go_ret
  exact ⟨rfl, rfl⟩

set_option maxHeartbeats 400000 in
theorem mark_any (base b : Nat) (w : World) (fp : List Nat) (s : S) (h : IsSet w base b fp s) :
    Calls Try.prog 39 #[.pointer (some ⟨b, 0, none⟩)] w fun e w' => e = .returned (.int .i64 s.done.length) ∧ w = w' := by
  obtain ⟨vl, vt, vd, m, tab, pos, h, rfl⟩ := h
  obtain ⟨la, lc, rfl⟩ := ownsRow_any h.rdone
  have h1 := h.blk.cell 3
  simp only [List.getElem?_cons_succ, List.getElem?_cons_zero] at h1
  clear h
  go_enter Try.func39, Try.ntmps39
  go_wp2
  go_ret
  exact ⟨rfl, rfl⟩


set_option maxHeartbeats 1000000 in
theorem get_hit (base b : Nat) (a : Int) (w : World) (vl vt vd : Value) (m : Nat) (tab : List Int) (pos : Nat → Nat) (s : S) (h : SetAt w base b vl vt vd m tab pos s)
    (i : Nat) (hx : idx s.list a = some i) :
    Calls Try.prog 36 #[.pointer (some ⟨b, 0, none⟩), .int .i64 a] w fun e w' => e = .returned (.tuple #[.int .u64 (W.get s a).1, .bool (W.get s a).2]) ∧ ∃ n, w' = w.drewN n := by
  obtain ⟨bt, c, rfl, hbt, hb2, hmc, hcm⟩ := h.vt_form
  obtain ⟨hi, hai⟩ := idx_some hx
  obtain ⟨bl, cl, rfl, hbl, hbl2, hlc, hlm⟩ := h.vl_form (by omega)
  have h1 := h.blk.cell 1
  have h2 := h.blk.cell 2
  simp only [List.getElem?_cons_succ, List.getElem?_cons_zero] at h1 h2
  have hlc1 := (h.list_cell hi).2
  unfold maxLen at hcm hlm
  have hm1 := h.ok.bound
  have hl1 : s.list.length ≤ 65536 := Nat.le_trans h.few h.room
  have hget : W.get s a = (s.list[i].2, true) := by simp [W.get, hx, List.getD, List.getElem?_eq_getElem hi]
  rw [hget]
  clear hget
  generalize hold : s.list[i].2 = old at *
  have H := Lib.hid h; clear h
  have HX := Lib.hid hx; clear hx hold hai
  go_enter Try.func36, Try.ntmps36
  go_wp2_with fail
  refine wp_region_fr [(1, [0, 1, 2, 3, 4, 5]), (2, [6]), (0, [7]), (3, [8]), (0, [9])] [] (by kernel_rfl) (by kernel_rfl) ?_
  simp only [theOps, nthOp, List.map_cons, List.map_nil, Array.getD_eq_getD_getElem?, List.getElem?_toArray, List.getElem?_cons_succ, List.getElem?_cons_zero, Option.getD_some]
  repeat ((first | refine wpSegs_soft ?_ | refine wpSegs_pure ?_ | refine wpSegs_here ?_); (repeat (first | go_big_quiet_step (fail) | quiet_step (fail))); refine wpQuiet_nil ?_)
  refine wpSegs_keep ?_
  go_wp2_with fail
  refine (slot_any base b a _ _ _ _ m tab pos s (H.out.drewN 1)).mono ?_
  rintro e w' ⟨k, q, rfl, hS, rfl⟩
  obtain ⟨hk, ⟨i', hx', hp, hi', htk⟩ | ⟨hx', _⟩⟩ := hS
  rotate_left
  · rw [HX.out] at hx'; cases hx'
  rw [HX.out] at hx'
  injection hx' with hii
  subst hii
  have htc := H.out.tab_cell htk
  have hnz : (((i : Int) + 1) == 0) = false := by simp; omega
  clear hp hi'
  have HTK := Lib.hid htk; clear htk
  go_wp2_with fail
  refine ⟨⟨⟨_, (by exact ⟨rfl, rfl, rfl, Nat.le_refl _, fun _ _ _ => rfl⟩)⟩, rfl⟩, ?_⟩
  repeat ((first | refine wpSegs_soft ?_ | refine wpSegs_pure ?_ | refine wpSegs_here ?_); (repeat (first | go_big_quiet_step (fail) | quiet_step (fail))); refine wpQuiet_nil ?_)
  refine wpSegs_hard ?_
  go_wp2_with fail
  repeat ((first | refine wpSegs_soft ?_ | refine wpSegs_pure ?_ | refine wpSegs_here ?_); (repeat (first | go_big_quiet_step (fail) | quiet_step (fail))); refine wpQuiet_nil ?_)
  refine wpSegs_done ?_
  go_wp2
  go_ret2
  exact ⟨rfl, _, rfl⟩

set_option maxHeartbeats 1000000 in
theorem get_miss (base b : Nat) (a : Int) (w : World) (vl vt vd : Value) (m : Nat) (tab : List Int) (pos : Nat → Nat) (s : S) (h : SetAt w base b vl vt vd m tab pos s)
    (hx : idx s.list a = none) :
    Calls Try.prog 36 #[.pointer (some ⟨b, 0, none⟩), .int .i64 a] w fun e w' => e = .returned (.tuple #[.int .u64 (W.get s a).1, .bool (W.get s a).2]) ∧ ∃ n, w' = w.drewN n := by
  obtain ⟨bt, c, rfl, hbt, hb2, hmc, hcm⟩ := h.vt_form
  have h2 := h.blk.cell 2
  simp only [List.getElem?_cons_succ, List.getElem?_cons_zero] at h2
  unfold maxLen at hcm
  have hm1 := h.ok.bound
  have hget : W.get s a = (0, false) := by simp [W.get, hx]
  rw [hget]
  clear hget
  have H := Lib.hid h; clear h
  have HX := Lib.hid hx; clear hx
  go_enter Try.func36, Try.ntmps36
  go_wp2_with fail
  refine wp_region_fr [(1, [0, 1, 2, 3, 4, 5]), (2, [6]), (0, [7]), (3, [8]), (0, [9])] [] (by kernel_rfl) (by kernel_rfl) ?_
  simp only [theOps, nthOp, List.map_cons, List.map_nil, Array.getD_eq_getD_getElem?, List.getElem?_toArray, List.getElem?_cons_succ, List.getElem?_cons_zero, Option.getD_some]
  repeat ((first | refine wpSegs_soft ?_ | refine wpSegs_pure ?_ | refine wpSegs_here ?_); (repeat (first | go_big_quiet_step (fail) | quiet_step (fail))); refine wpQuiet_nil ?_)
  refine wpSegs_keep ?_
  go_wp2_with fail
  refine (slot_any base b a _ _ _ _ m tab pos s (H.out.drewN 1)).mono ?_
  rintro e w' ⟨k, q, rfl, hS, rfl⟩
  obtain ⟨hk, ⟨i', hx', hp, hi', htk⟩ | ⟨hx', htk, _⟩⟩ := hS
  · rw [HX.out] at hx'; cases hx'
  have htc := H.out.tab_cell htk
  clear hx'
  have HTK := Lib.hid htk; clear htk
  go_wp2_with fail
  refine ⟨⟨⟨_, (by exact ⟨rfl, rfl, rfl, Nat.le_refl _, fun _ _ _ => rfl⟩)⟩, rfl⟩, ?_⟩
  repeat ((first | refine wpSegs_soft ?_ | refine wpSegs_pure ?_ | refine wpSegs_here ?_); (repeat (first | go_big_quiet_step (fail) | quiet_step (fail))); refine wpQuiet_nil ?_)
  refine wpSegs_hard ?_
  go_wp2_with fail
  repeat ((first | refine wpSegs_soft ?_ | refine wpSegs_pure ?_ | refine wpSegs_here ?_); (repeat (first | go_big_quiet_step (fail) | quiet_step (fail))); refine wpQuiet_nil ?_)
  refine wpSegs_done ?_
  go_wp2
  go_ret2
  exact ⟨rfl, _, rfl⟩

theorem get_any (base b : Nat) (a : Int) (w : World) (fp : List Nat) (s : S) (h : IsSet w base b fp s) :
    Calls Try.prog 36 #[.pointer (some ⟨b, 0, none⟩), .int .i64 a] w fun e w' => e = .returned (.tuple #[.int .u64 (W.get s a).1, .bool (W.get s a).2]) ∧ ∃ n, w' = w.drewN n := by
  obtain ⟨vl, vt, vd, m, tab, pos, hs, rfl⟩ := h
  cases hx : idx s.list a with
  | some i => exact get_hit base b a w vl vt vd m tab pos s hs i hx
  | none => exact get_miss base b a w vl vt vd m tab pos s hs hx
end Go.Proofs.Ytccioehckfdjdaa
end

/- The walk of wset.New. -/
section
namespace Go.Proofs.Ytccioehckfdjdaa
open Go.RowKit Go.Tum Go.Tum.W

def NewRel (w : World) (r : Nat) (g : Nat) (v : Value) (wr : World) : Prop :=
  w = wr ∧ ∃ p z : Nat, z = 2 ^ p ∧ 1 ≤ p ∧ v = .int .i64 (z : Int) ∧ (p = 1 ∨ z < 4 * r) ∧ g = 4 * r + 2 - z

def roomOf (r : Int) : Nat := (min (max r 0) 65536).toNat

def NewPost (w : World) (base : Nat) (r : Int) (e : Ending) (w' : World) : Prop :=
  ∃ b fp, e = .returned (.pointer (some ⟨b, 0, none⟩)) ∧ IsSet w' base b fp ⟨roomOf r, [], []⟩ ∧ Fr [] w w' ∧ ∀ k ∈ fp, w.heap.size ≤ k

theorem W_infoInt : (Try.prog.info? 3).map (fun i => (i.zero, i.size, i.bytes)) = some (some (.int .i64 0), 1, 8) := by kernel_rfl

theorem new_close {w w1 : World} {base r z p : Nat} {ρ : Int} (hρ : ρ = (r : Int)) (hz : z = 2 ^ p) (hp : 1 ≤ p) (hz4 : p = 1 ∨ z < 4 * r) (hr : r ≤ 65536) (hzr : 2 * r ≤ z) (hbase : base ≤ w.heap.size)
    (ho : w1.ownsRow base 3 1 (.slice (some ⟨w.heap.size, 0, none⟩) z z) z (madeCells (Value.int IntKind.i64 0).cells (z * 1)).toList) (hg : w.grownBy w1 none) :
    let w2 := w1.alloc (.cells #[.int .i64 ρ, .slice none 0 0, .slice (some ⟨w.heap.size, 0, none⟩) z z, .slice none 0 0] 168)
    ∃ fp, IsSet w2 base w1.heap.size fp ⟨r, [], []⟩ ∧ Fr [] w w2 ∧ ∀ k ∈ fp, w.heap.size ≤ k := by
  subst hρ
  have hlt := (ho.lt w.heap.size rfl).2
  have hz2 : 2 ≤ z := by
    rw [hz]
    exact Nat.le_trans (show 2 ≤ 2 ^ 1 by decide) (Nat.pow_le_pow_right (by decide) hp)
  have hzb : z ≤ 1000000 := by rcases hz4 with e | e; (rw [hz, e]; decide); omega
  refine ⟨fpOf w1.heap.size (.slice none 0 0) (.slice (some ⟨w.heap.size, 0, none⟩) z z) (.slice none 0 0),
    ⟨.slice none 0 0, .slice (some ⟨w.heap.size, 0, none⟩) z z, .slice none 0 0, z, List.replicate z 0, fun _ => 0, ?_, rfl⟩, ?_, ?_⟩
  · refine ⟨by omega, Blk.new _ _ _, ?_, ?_, ?_, ?_, hr, Nat.zero_le _, hzr, hz2, by simp [Value.ownBlock], ?_, by simp [Value.ownBlock], .inl rfl, .inl rfl, .inl rfl⟩
    · exact World.ownsRow_nil _ _ _ _
    · have := ho.alloc (.cells #[.int .i64 r, .slice none 0 0, .slice (some ⟨w.heap.size, 0, none⟩) z z, .slice none 0 0] 168)
      rw [show (Value.int IntKind.i64 0).cells = #[Value.int IntKind.i64 0] from rfl, toList_madeCells_one, Nat.mul_one] at this
      rw [List.map_replicate]
      exact this
    · exact World.ownsRow_nil _ _ _ _
    · subst hz; exact TabOK.new p hzb
    · simp [Value.ownBlock]; omega
  · exact ((Fr.refl [] w).grown hg (fun k e => by cases e)).alloc _
  · intro k hk
    rcases mem_fpOf.1 hk with e | e | e | e
    · subst e; exact hg.size
    · simp [Value.ownBlock] at e
    · simp [Value.ownBlock] at e; omega
    · simp [Value.ownBlock] at e

set_option maxHeartbeats 1000000 in
set_option maxRecDepth 100000 in
theorem new_any (base : Nat) (r : Int) (w : World) (hbase : base ≤ w.heap.size) :
    Calls Try.prog 34 #[.int .i64 r] w (NewPost w base r) := by
  obtain ⟨i0, hi3, hz0, hz1, hz2⟩ := info_parts W_infoInt
  have hr1 : roomOf r ≤ 65536 := by unfold roomOf; omega
  obtain ⟨ρ, h1, h2⟩ : ∃ ρ : Int, (r < 0 ∧ ρ = 0 ∨ 65536 < r ∧ ρ = 65536 ∨ (0 ≤ r ∧ r ≤ 65536) ∧ ρ = r) ∧ ρ = (roomOf r : Int) := by
    by_cases h : r < 0
    · exact ⟨0, .inl ⟨h, rfl⟩, by unfold roomOf; omega⟩
    · by_cases h2 : 65536 < r
      · exact ⟨65536, .inr (.inl ⟨h2, rfl⟩), by unfold roomOf; omega⟩
      · exact ⟨r, .inr (.inr ⟨⟨by omega, by omega⟩, rfl⟩), by unfold roomOf; omega⟩
  unfold NewPost
  generalize roomOf r = R at *
  have hR1 := Int.le_of_eq h2
  have hR2 := Int.le_of_eq h2.symm
  have HR := Lib.hid h2
  clear h2
  rcases h1 with ⟨hc, rfl⟩ | ⟨hc, h65⟩ | ⟨⟨hc, hc'⟩, rfl⟩
  · go_enter Try.func34, Try.ntmps34
    go_wp2_with fail
    go_loopg [3] (4 * R) (fun g v wr => NewRel w R g v wr)
    case atStart => exact ⟨rfl, 1, 2, rfl, Nat.le_refl _, rfl, .inl rfl, by omega⟩
    case round =>
      obtain ⟨rfl, p, z, hz, hp, rfl, hz4, hg⟩ := hrel
      have hzb : z ≤ 300000 := by rcases hz4 with e | e; (rw [hz, e]; decide); omega
      have HZ := Lib.hid hz; have HG := Lib.hid hg; have H4 := Lib.hid hz4
      clear hz hg hz4
      go_wp2_with (at_make; refine wpList_make_full _ rfl _ _ 70 rfl base 3 i0 _ 1 Try.underlying70 hi3 hz0 hz1 .i64 .i64 _ _ z rfl rfl rfl rfl (by rw [hz2]; omega) (by unfold maxLen; omega) hbase ?_; intro w1 ho hg1)
      go_ret
      obtain ⟨fp, h1, h2, h3⟩ := new_close HR.out HZ.out hp H4.out hr1 (by omega) hbase ho hg1
      exact ⟨_, fp, rfl, h1, h2, h3⟩
  · have H65 := Lib.hid h65; clear h65
    go_enter Try.func34, Try.ntmps34
    go_wp2_with fail
    rw [← H65.out]
    go_loopg [3] (4 * R) (fun g v wr => NewRel w R g v wr)
    case atStart => exact ⟨rfl, 1, 2, rfl, Nat.le_refl _, rfl, .inl rfl, by omega⟩
    case round =>
      obtain ⟨rfl, p, z, hz, hp, rfl, hz4, hg⟩ := hrel
      have hzb : z ≤ 300000 := by rcases hz4 with e | e; (rw [hz, e]; decide); omega
      have HZ := Lib.hid hz; have HG := Lib.hid hg; have H4 := Lib.hid hz4
      clear hz hg hz4
      by_cases hlt : z < 2 * R
      · go_wp2_with fail
        go_roundg (4 * R + 2 - 2 * z)
        case measure =>
          have := HG.out
          have h3 : 2 ≤ z := by rw [HZ.out]; exact Nat.le_trans (show 2 ≤ 2 ^ 1 by decide) (Nat.pow_le_pow_right (by decide) hp)
          omega
        case rel => exact ⟨rfl, p + 1, 2 * z, by rw [HZ.out, Nat.pow_succ]; omega, by omega, by go_num, .inr (by omega), by omega⟩
      · go_wp2_with (at_make; refine wpList_make_full _ rfl _ _ 70 rfl base 3 i0 _ 1 Try.underlying70 hi3 hz0 hz1 .i64 .i64 _ _ z rfl rfl rfl rfl (by rw [hz2]; omega) (by unfold maxLen; omega) hbase ?_; intro w1 ho hg1)
        go_ret
        obtain ⟨fp, h1, h2, h3⟩ := new_close HR.out HZ.out hp H4.out hr1 (by omega) hbase ho hg1
        exact ⟨_, fp, rfl, h1, h2, h3⟩
  · go_enter Try.func34, Try.ntmps34
    go_wp2_with fail
    go_loopg [3] (4 * R) (fun g v wr => NewRel w R g v wr)
    case atStart => exact ⟨rfl, 1, 2, rfl, Nat.le_refl _, rfl, .inl rfl, by omega⟩
    case round =>
      obtain ⟨rfl, p, z, hz, hp, rfl, hz4, hg⟩ := hrel
      have hzb : z ≤ 300000 := by rcases hz4 with e | e; (rw [hz, e]; decide); omega
      have HZ := Lib.hid hz; have HG := Lib.hid hg; have H4 := Lib.hid hz4
      clear hz hg hz4
      by_cases hlt : z < 2 * R
      · go_wp2_with fail
        go_roundg (4 * R + 2 - 2 * z)
        case measure =>
          have := HG.out
          have h3 : 2 ≤ z := by rw [HZ.out]; exact Nat.le_trans (show 2 ≤ 2 ^ 1 by decide) (Nat.pow_le_pow_right (by decide) hp)
          omega
        case rel => exact ⟨rfl, p + 1, 2 * z, by rw [HZ.out, Nat.pow_succ]; omega, by omega, by go_num, .inr (by omega), by omega⟩
      · go_wp2_with (at_make; refine wpList_make_full _ rfl _ _ 70 rfl base 3 i0 _ 1 Try.underlying70 hi3 hz0 hz1 .i64 .i64 _ _ z rfl rfl rfl rfl (by rw [hz2]; omega) (by unfold maxLen; omega) hbase ?_; intro w1 ho hg1)
        go_ret
        obtain ⟨fp, h1, h2, h3⟩ := new_close HR.out HZ.out hp H4.out hr1 (by omega) hbase ho hg1
        exact ⟨_, fp, rfl, h1, h2, h3⟩
end Go.Proofs.Ytccioehckfdjdaa
end

/- The walks of slices.Clone at entries, (*wset.Set).All, the law's own 'all'. -/
section
namespace Go.Proofs.Ytccioehckfdjdaa
open Go.RowKit Go.Tum Go.Tum.W

theorem ents_one (l : List (Int × Int)) : ∀ u ∈ ents l, u.oneCell' = true := by
  intro u hu
  simp only [ents, List.mem_flatMap] at hu
  obtain ⟨e, _, he⟩ := hu
  simp at he
  rcases he with rfl | rfl <;> rfl

/-- A new row that holds the same. -/
def ClonePost (w : World) (base : Nat) (l : List (Int × Int)) (T : TypeId) (e : Ending) (w' : World) : Prop :=
  ∃ v, e = .returned v ∧ w'.ownsRow base T 2 v l.length (ents l) ∧ Fr [] w w' ∧ ∀ k, v.ownBlock = some k → w.heap.size ≤ k

set_option maxHeartbeats 400000 in
theorem clone_nil (base : Nat) (w : World) :
    Calls Try.prog 133 #[.slice none 0 0] w (ClonePost w base [] 136) := by
  have hk := fun (wx : World) => Lib.run_eql_slice_nil (P := Try.prog) wx 113 136 none 0 0 0 0 Try.underlying113
  go_enter Try.func133, Try.ntmps133
  go_wp2
  go_ret
  exact ⟨_, rfl, World.ownsRow_nil _ _ _ _, Fr.refl _ _, fun k e => by simp [Value.ownBlock] at e⟩

set_option maxHeartbeats 400000 in
theorem clone_some (base base' : Nat) (w : World) (g n c : Nat) (l : List (Int × Int)) (hn : n = l.length) (h : w.ownsRow base' 136 2 (.slice (some ⟨g, 0, none⟩) n c) n (ents l)) (hl : l.length ≤ 1000000) (hbase : base ≤ w.heap.size) :
    Calls Try.prog 133 #[.slice (some ⟨g, 0, none⟩) n c] w (ClonePost w base l 136) := by
  obtain ⟨j0, hj63, hy0, hy1, hy2⟩ := info_parts W_infoEntry
  have hk := fun (wx : World) => Lib.run_eql_slice_nil (P := Try.prog) wx 113 136 (some ⟨g, 0, none⟩) n c 0 0 Try.underlying113
  have hgl := (h.lt g rfl).2
  have HR : Hid ((w.alloc (.cells [].toArray 136)).ownsRow base 136 2 (.slice (some ⟨w.heap.size, 0, none⟩) 0 0) 0 []) :=
    World.ownsRow_made w #[] 0 hbase (by unfold maxLen; omega) (by simp)
  have H := Lib.hid h; clear h
  have HN := Lib.hid hn
  clear hn
  have hnn : n ≤ 1000000 := by rw [HN.out]; exact hl
  go_enter Try.func133, Try.ntmps133
  go_wp2_with (at_builtin; go_must (refine wpList_append_at _ rfl _ _ 113 rfl base 136 j0 _ 2 16 Try.underlying113 hj63 hy0 hy1 hy2 rfl (by decide) (.slice (some ⟨w.heap.size, 0, none⟩) 0 0) 0 [] rfl HR.out ⟨g, 0, none⟩ n c (ents l) rfl (by rw [HN.out]; exact ents_length l) ((H.out.alloc _).cells rfl) (ents_one l) (by unfold maxLen; omega) (by omega) (by simp; omega) (by simp) ?_))
  intro g2 c2 w2 hown hg2 hgg hc1 hc2
  go_wp2
  go_ret
  refine ⟨_, rfl, ?_, ((Fr.refl [] w).alloc (.cells #[] 136)).grown hg2 (fun k e => .inr (by simp [Value.ownBlock] at e; omega)), ?_⟩
  · rw [← HN.out]
    simpa using hown
  · intro k e
    simp [Value.ownBlock] at e hgg
    omega

theorem all_any (base b : Nat) (w : World) (fp : List Nat) (s : S) (h : IsSet w base b fp s) (hbase : base ≤ w.heap.size) :
    Calls Try.prog 112 #[.pointer (some ⟨b, 0, none⟩)] w (ClonePost w base s.list 136) := by
  obtain ⟨vl, vt, vd, m, tab, pos, h, rfl⟩ := h
  have hl1 : s.list.length ≤ 65536 := Nat.le_trans h.few h.room
  have h1 := h.blk.cell 1
  simp only [List.getElem?_cons_succ, List.getElem?_cons_zero] at h1
  have HC : Hid (Calls Try.prog 133 #[vl] w (ClonePost w base s.list 136)) := by
    rcases ownsRow_form h.rlist with ⟨rfl, h0⟩ | ⟨g, c, rfl, _⟩
    · have : s.list = [] := List.eq_nil_of_length_eq_zero h0
      rw [this]
      exact clone_nil base w
    · exact clone_some base base w g _ c s.list rfl h.rlist (by omega) hbase
  clear h
  go_enter Try.func112, Try.ntmps112
  go_wp2_with fail
  refine HC.out.mono ?_
  rintro e w' ⟨v, rfl, ho, hf, hk⟩
  go_wp2_with fail
  go_ret
  exact ⟨v, rfl, ho, hf, hk⟩

theorem W_infoREntry : (Try.prog.info? 177).map (fun i => (i.zero, i.size, i.bytes)) = some (some (.agg #[.int .i64 0, .int .u64 0]), 2, 16) := by kernel_rfl

/-- What 'all' hands back: up to 'most' entries, in new memory. -/
def AllRel (w : World) (base : Nat) (l : List (Int × Int)) (most : Int) (vc : Value) (g : Nat) (vo vi : Value) (wr : World) : Prop :=
  ∃ k : Nat, k ≤ l.length ∧ k + g = l.length ∧ vi = .int .i64 (k : Int) ∧ (k : Int) < most ∧ wr.ownsRow base 177 2 vo k (ents (l.take k)) ∧ (∃ la lc, vo = .slice (some la) k lc) ∧
    (∀ b, vo.ownBlock = some b → w.heap.size ≤ b) ∧ vc.ownBlock ≠ vo.ownBlock ∧ wr.ownsRow base 136 2 vc l.length (ents l) ∧ Fr [] w wr

end Go.Proofs.Ytccioehckfdjdaa
end
