/- The walk of (*wset.Set).Put. -/
import Derived.Test.YtccioehckfdjdaaMWa
import Derived.Test.YtccioehckfdjdaaMBase
namespace Go.Proofs.Ytccioehckfdjdaa
open Go.RowKit Go.Tum Go.Tum.W

set_option maxRecDepth 20000 in
theorem W_infoChange : (Try.prog.info? 174).map (fun i => (i.zero, i.size, i.bytes)) = some (some (.agg #[.int .i64 0, .int .u64 0, .bool false]), 3, 24) := by kernel_rfl
set_option maxRecDepth 20000 in
theorem W_infoEntry : (Try.prog.info? 136).map (fun i => (i.zero, i.size, i.bytes)) = some (some (.agg #[.int .i64 0, .int .u64 0]), 2, 16) := by kernel_rfl

def PutPost (w : World) (base b : Nat) (fp : List Nat) (s : S) (a v : Int) (e : Ending) (w' : World) : Prop :=
  e = .returned (.int .i64 (put s a v).2) ∧ SetStep w w' base b fp (put s a v).1

set_option maxHeartbeats 1000000 in
set_option maxRecDepth 20000 in
theorem put_hit (base b : Nat) (a v : Int) (w : World) (vl vt vd : Value) (m : Nat) (tab : List Int) (pos : Nat → Nat) (s : S) (h : SetAt w base b vl vt vd m tab pos s)
    (i : Nat) (hx : idx s.list a = some i) (hdn : s.done.length ≤ 1000000) (hbase : base ≤ w.heap.size) :
    Calls Try.prog 106 #[.pointer (some ⟨b, 0, none⟩), .int .i64 a, .int .u64 v] w (PutPost w base b (fpOf b vl vt vd) s a v) := by
  obtain ⟨bt, c, rfl, hbt, hb2, hmc, hcm⟩ := h.vt_form
  obtain ⟨hi, hai⟩ := idx_some hx
  obtain ⟨bl, cl, rfl, hbl, hbl2, hlc, hlm⟩ := h.vl_form (by omega)
  have h1 := h.blk.cell 1
  have h2 := h.blk.cell 2
  have h3 := h.blk.cell 3
  have f3 := h.blk.froz 3
  simp only [List.getElem?_cons_succ, List.getElem?_cons_zero] at h1 h2 h3
  have hlc1 := (h.list_cell hi).2
  have flc1 := ownsRow_froz h.rlist (i * 2 + 1)
  unfold maxLen at hcm hlm
  have hm1 := h.ok.bound
  have hl1 : s.list.length ≤ 65536 := Nat.le_trans h.few h.room
  have hbb := h.bd
  have hld := h.ld
  have hblb : bl ≠ b := fun e => h.bl (by simp [Value.ownBlock, e])
  have hdbl : vd.ownBlock ≠ some bl := fun e => by
    rcases hld with e3 | e3
    · simp [Value.ownBlock] at e3
    · exact e3 (by rw [e]; rfl)
  have hdrow := h.rdone
  have hdc : (⟨b, 3, none⟩ : Addr) ≠ ⟨bl, i * 2 + 1, none⟩ := fun e => hblb (by injection e with e1; exact e1.symm)
  obtain ⟨i0, hi63, hz0, hz1, hz2⟩ := info_parts W_infoChange
  generalize hold : s.list[i].2 = old at *
  have Hold := Lib.hid hold; clear hold
  have H := Lib.hid h; clear h
  have HX := Lib.hid hx; clear hx
  have HA := Lib.hid hai; clear hai
  go_enter Try.func106, Try.ntmps106
  go_wp2_with fail
  refine (slot_any base b a w _ _ _ m tab pos s H.out).mono ?_
  rintro e w' ⟨k, q, rfl, hS, rfl⟩
  obtain ⟨hk, ⟨i', hx', hp, hi', htk⟩ | ⟨hx', _⟩⟩ := hS
  rotate_left
  · rw [HX.out] at hx'; cases hx'
  rw [HX.out] at hx'
  injection hx' with hii
  subst hii
  have htc := H.out.tab_cell htk
  have hnz : (((i : Int) + 1) != 0) = true := by simp; omega
  clear hp hi'
  have HTK := Lib.hid htk; clear htk
  have hrow2 : (w.drewN (q + 1)).ownsRow base 174 3 vd s.done.length (chs s.done) := ownsRow_fr hdrow ((Fr.refl [] w).drewN _) (fun _ _ => by simp)
  have HR := Lib.hid hrow2; clear hrow2 hdrow
  have hwr : IntKind.i64.wrap (i : Int) = (i : Int) := wrap_i64_id _ (by omega) (by omega)
  go_wp2_with fail
  refine wp_region_fr [(1, [1, 2, 3, 4, 5, 6, 7, 8, 9, 10, 11]), (0, [0]), (2, [12]), (3, [13]), (0, [14, 15]), (3, [16])] [] (by kernel_rfl) (by kernel_rfl) ?_
  simp only [theOps, nthOp, List.map_cons, List.map_nil, Array.getD_eq_getD_getElem?, List.getElem?_toArray, List.getElem?_cons_succ, List.getElem?_cons_zero, Option.getD_some]
  repeat ((first | refine wpSegs_soft ?_ | refine wpSegs_pure ?_ | refine wpSegs_here ?_); (repeat (first | go_big_quiet_step (fail) | quiet_step (fail))); refine wpQuiet_nil ?_)
  refine wpSegs_keep ?_
  go_wp2_with fail
  refine ⟨⟨⟨_, (Fr.refl _ _).alloc _⟩, rfl⟩, ?_⟩
  refine wpSegs_hard ?_
  refine wpList_push _ rfl _ _ 166 rfl base 174 i0 _ 3 24 Try.underlying166 hi63 hz0 hz1 hz2 rfl (by decide) vd s.done.length _ rfl HR.out [.int .i64 i, .int .u64 old, .bool false] _ _ rfl (by simp) rfl (by simp [Value.oneCell']) (by unfold maxLen; omega) (by omega) (by simpa using hbase) ?_
  intro g c' w1 hd hg hgg hc1 hc2
  have B1 := ((H.out.blk.drewN (q + 1)).alloc (.cells #[.int .i64 (i : Int), .int .u64 old, .bool false] 174)).grown hg (fun e => hbb e.symm)
  have e1 : w1.cell? ⟨b, 3, none⟩ = some vd := B1.cell 3
  have e3 : w1.frozen? ⟨b, 3, none⟩ = false := B1.froz 3
  have L1 := ((ownsRow_fr H.out.rlist ((Fr.refl [] w).drewN (q + 1)) (fun _ _ => by simp)).alloc (.cells #[.int .i64 (i : Int), .int .u64 old, .bool false] 174)).kept hg (.inr (fun e => hdbl e.symm))
  have e2 : w1.cell? ⟨bl, i * 2 + 1, none⟩ = some (.int .u64 old) := ownsRow_cell L1 _ _ (by rw [(ents_get _ i hi).2, Hold.out])
  have e4 : w1.frozen? ⟨bl, i * 2 + 1, none⟩ = false := ownsRow_froz L1 _
  have HD := Lib.hid hd; have HG := Lib.hid hg; have HGG := Lib.hid hgg
  clear B1 L1 hd hg hgg
  go_wp2_with fail
  simp only [Act.put, List.setIfInBounds_toArray, List.set_cons_zero, List.set_cons_succ]
  repeat ((first | refine wpSegs_soft ?_ | refine wpSegs_pure ?_ | refine wpSegs_here ?_); (repeat (first | go_big_quiet_step (fail) | quiet_step (fail))); refine wpQuiet_nil ?_)
  refine wpSegs_hard ?_
  go_wp2_with fail
  refine wpSegs_done ?_
  go_wp2
  go_ret
  refine ⟨by simp [put, HX.out], ?_⟩
  exact put_hit_close H.out HX.out hi Hold.out (((Fr.refl [] w).drewN (q + 1)).alloc _) HG.out HD.out (by rcases HGG.out with e | e; exact .inl e; exact .inr (by rw [e]; simp))

set_option maxHeartbeats 1000000 in
set_option maxRecDepth 20000 in
theorem put_full (base b : Nat) (a v : Int) (w : World) (vl vt vd : Value) (m : Nat) (tab : List Int) (pos : Nat → Nat) (s : S) (h : SetAt w base b vl vt vd m tab pos s)
    (hx : idx s.list a = none) (hfull : s.room ≤ s.list.length) :
    Calls Try.prog 106 #[.pointer (some ⟨b, 0, none⟩), .int .i64 a, .int .u64 v] w (PutPost w base b (fpOf b vl vt vd) s a v) := by
  obtain ⟨bt, c, rfl, hbt, hb2, hmc, hcm⟩ := h.vt_form
  obtain ⟨la, lc, rfl⟩ : ∃ la lc, vl = .slice la s.list.length lc := by
    rcases ownsRow_form h.rlist with ⟨e, e2⟩ | ⟨g, cap, e, _⟩
    · exact ⟨none, 0, by rw [e, e2]⟩
    · exact ⟨_, _, e⟩
  have h0 := h.blk.cell 0
  have h1 := h.blk.cell 1
  have h2 := h.blk.cell 2
  simp only [List.getElem?_cons_succ, List.getElem?_cons_zero] at h0 h1 h2
  unfold maxLen at hcm
  have hm1 := h.ok.bound
  have hl1 : s.list.length ≤ 65536 := Nat.le_trans h.few h.room
  have hge : decide ((s.list.length : Int) ≥ (s.room : Int)) = true := by simp; omega
  have H := Lib.hid h; clear h
  have HX := Lib.hid hx; clear hx
  go_enter Try.func106, Try.ntmps106
  go_wp2_with fail
  refine (slot_any base b a w _ _ _ m tab pos s H.out).mono ?_
  rintro e w' ⟨k, q, rfl, hS, rfl⟩
  obtain ⟨hk, ⟨i', hx', hp, hi', htk⟩ | ⟨hx', htk, _⟩⟩ := hS
  · rw [HX.out] at hx'; cases hx'
  have htc := H.out.tab_cell htk
  clear hx'
  have HTK := Lib.hid htk; clear htk
  go_wp2_with fail
  go_quiet (fail)
  go_wp2
  go_ret
  refine ⟨by simp [put, HX.out, hfull], ?_⟩
  have hp : (put s a v).1 = s := by simp [put, HX.out, hfull]
  rw [hp, World.drewN_drewN]
  exact ⟨_, ⟨_, _, _, m, tab, pos, H.out.drewN _, rfl⟩, (Fr.refl _ _).drewN _, fun k hk => .inl hk⟩

set_option maxHeartbeats 1000000 in
set_option maxRecDepth 20000 in
theorem put_new (base b : Nat) (a v : Int) (w : World) (vl vt vd : Value) (m : Nat) (tab : List Int) (pos : Nat → Nat) (s : S) (h : SetAt w base b vl vt vd m tab pos s)
    (hx : idx s.list a = none) (hfull : s.list.length < s.room) (hdn : s.done.length ≤ 1000000) (hbase : base ≤ w.heap.size) :
    Calls Try.prog 106 #[.pointer (some ⟨b, 0, none⟩), .int .i64 a, .int .u64 v] w (PutPost w base b (fpOf b vl vt vd) s a v) := by
  obtain ⟨bt, c, rfl, hbt, hb2, hmc, hcm⟩ := h.vt_form
  obtain ⟨la, lc, rfl⟩ : ∃ la lc, vl = .slice la s.list.length lc := by
    rcases ownsRow_form h.rlist with ⟨e, e2⟩ | ⟨g, cap, e, _⟩
    · exact ⟨none, 0, by rw [e, e2]⟩
    · exact ⟨_, _, e⟩
  have h0 := h.blk.cell 0
  have h1 := h.blk.cell 1
  have h2 := h.blk.cell 2
  have h3 := h.blk.cell 3
  simp only [List.getElem?_cons_succ, List.getElem?_cons_zero] at h0 h1 h2 h3
  unfold maxLen at hcm
  have hm1 := h.ok.bound
  have hl1 : s.list.length ≤ 65536 := Nat.le_trans h.few h.room
  have hge : decide ((s.list.length : Int) ≥ (s.room : Int)) = false := by simp; omega
  have hbb := h.bd
  have hbl := h.bl
  have hblt := h.blk.lt
  obtain ⟨i0, hi63, hz0, hz1, hz2⟩ := info_parts W_infoChange
  obtain ⟨j0, hj63, hy0, hy1, hy2⟩ := info_parts W_infoEntry
  have hbtb : bt ≠ b := fun e => h.bt (by simp [Value.ownBlock, e])
  have hdbt : vd.ownBlock ≠ some bt := fun e => by
    rcases h.dt with e3 | e3
    · rw [e] at e3; cases e3
    · exact e3 (by rw [e]; rfl)
  have hlbt : (Value.slice la s.list.length lc).ownBlock ≠ some bt := fun e => by
    rcases h.lt with e3 | e3
    · rw [e] at e3; cases e3
    · exact e3 (by rw [e]; rfl)
  have H := Lib.hid h; clear h
  have HX := Lib.hid hx; clear hx
  go_enter Try.func106, Try.ntmps106
  go_wp2_with fail
  refine (slot_any base b a w _ _ _ m tab pos s H.out).mono ?_
  rintro e w' ⟨k, q, rfl, hS, rfl⟩
  obtain ⟨hk, ⟨i', hx', hp, hi', htk⟩ | ⟨hx', htk, hway⟩⟩ := hS
  · rw [HX.out] at hx'; cases hx'
  have htc := H.out.tab_cell htk
  clear hx'
  have HTK := Lib.hid htk; clear htk
  have HW := Lib.hid hway; clear hway
  have hwr : IntKind.i64.wrap (s.list.length : Int) = (s.list.length : Int) := wrap_i64_id _ (by omega) (by omega)
  go_wp2_with fail
  go_quiet (fail)
  go_wp2_with fail
  have HR : Hid (∀ n, (w.drewN n).ownsRow base 174 3 vd s.done.length (chs s.done)) := fun n => ownsRow_fr H.out.rdone ((Fr.refl [] w).drewN n) (fun _ _ => by simp)
  have HB1 : Hid (∀ n, Blk (w.drewN n) b 168 [.int .i64 s.room, .slice la s.list.length lc, .slice (some ⟨bt, 0, none⟩) m c, vd]) := fun n => H.out.blk
  rw [World.drewN_drewN]
  refine wp_region_fr [(1, [1, 2, 3, 4, 5, 6, 7, 8, 9, 10]), (0, [0]), (2, [11]), (3, [12]), (0, [13, 14]), (3, [15])] [] (by kernel_rfl) (by kernel_rfl) ?_
  simp only [theOps, nthOp, List.map_cons, List.map_nil, Array.getD_eq_getD_getElem?, List.getElem?_toArray, List.getElem?_cons_succ, List.getElem?_cons_zero, Option.getD_some]
  repeat ((first | refine wpSegs_soft ?_ | refine wpSegs_pure ?_ | refine wpSegs_here ?_); (repeat (first | go_big_quiet_step (fail) | quiet_step (fail))); refine wpQuiet_nil ?_)
  refine wpSegs_keep ?_
  go_wp2_with fail
  refine ⟨⟨⟨_, (Fr.refl _ _).alloc _⟩, rfl⟩, ?_⟩
  refine wpSegs_hard ?_
  refine wpList_push _ rfl _ _ 166 rfl base 174 i0 _ 3 24 Try.underlying166 hi63 hz0 hz1 hz2 rfl (by decide) vd s.done.length _ rfl (HR.out _) [.int .i64 s.list.length, .int .u64 0, .bool true] _ _ rfl (by simp) rfl (by simp [Value.oneCell']) (by unfold maxLen; omega) (by omega) (by simpa using hbase) ?_
  intro g c' w1 hd hg hgg hc1 hc2
  have B1 := ((HB1.out _).alloc (.cells #[.int .i64 (s.list.length : Int), .int .u64 0, .bool true] 174)).grown hg (fun e => hbb e.symm)
  have e1 : w1.cell? ⟨b, 3, none⟩ = some vd := B1.cell 3
  have e3 : w1.frozen? ⟨b, 3, none⟩ = false := B1.froz 3
  have B2 := B1.set 3 (.slice (some ⟨g, 0, none⟩) (s.done.length + 1) c')
  have e4 : w1.cell? ⟨b, 1, none⟩ = some (.slice la s.list.length lc) := B1.cell 1
  have e5 : w1.frozen? ⟨b, 1, none⟩ = false := B1.froz 1
  have e6 : w1.cell? ⟨b, 2, none⟩ = some (.slice (some ⟨bt, 0, none⟩) m c) := B1.cell 2
  have hs1 : w.heap.size < w1.heap.size := by have := hg.size; simp at this; omega
  have hgb : g ≠ b := by rcases hgg with e | e; (intro e2; subst e2; exact hbb e); (simp at e; omega)
  have HD := Lib.hid hd; have HG := Lib.hid hg; have HGG := Lib.hid hgg; have HB2 := Lib.hid B2
  clear B1 B2 hd hg hgg
  go_wp2_with fail
  simp only [Act.put, List.setIfInBounds_toArray, List.set_cons_zero, List.set_cons_succ]
  repeat ((first | refine wpSegs_soft ?_ | refine wpSegs_pure ?_ | refine wpSegs_here ?_); (repeat (first | go_big_quiet_step (fail) | quiet_step (fail))); refine wpQuiet_nil ?_)
  refine wpSegs_hard ?_
  go_wp2_with fail
  refine wpSegs_done ?_
  have HR2 : Hid ((w1.setCell ⟨b, 3, none⟩ (.slice (some ⟨g, 0, none⟩) (s.done.length + 1) c')).ownsRow base 136 2 (.slice la s.list.length lc) s.list.length (ents s.list)) := by
    have r1 := (ownsRow_fr H.out.rlist (((Fr.refl [] w).drewN (q + nq + 1)).alloc (.cells #[.int .i64 (s.list.length : Int), .int .u64 0, .bool true] 174)) (fun _ _ => by simp)).kept HG.out (by
      rcases H.out.ld with e | e
      · exact .inl e
      · exact .inr e)
    exact ownsRow_setCell r1 hbl _
  go_wp2_with ((at_builtin; go_must (refine wpList_push _ rfl _ _ 113 rfl base 136 j0 _ 2 16 Try.underlying113 hj63 hy0 hy1 hy2 rfl (by decide) (.slice la s.list.length lc) s.list.length _ rfl HR2.out [.int .i64 a, .int .u64 v] _ _ rfl (by simp) rfl (by simp [Value.oneCell']) (by unfold maxLen; omega) (by omega) (by simp [World.setCell]; omega) ?_)))
  intro g2 c2 w3 hl hg2 hgg2 hc21 hc22
  have HL := Lib.hid hl; have HG2 := Lib.hid hg2; have HGG2 := Lib.hid hgg2
  have B3 := (HB2.out.alloc (.cells #[.int .i64 a, .int .u64 v] 136)).grown hg2 (fun e => hbl e.symm)
  have f1 : w3.cell? ⟨b, 1, none⟩ = some (.slice la s.list.length lc) := B3.cell 1
  have f2 : w3.frozen? ⟨b, 1, none⟩ = false := B3.froz 1
  have f3 : w3.cell? ⟨b, 2, none⟩ = some (.slice (some ⟨bt, 0, none⟩) m c) := B3.cell 2
  have T1 := (ownsRow_fr H.out.rtab (((Fr.refl [] w).drewN (q + nq + 1)).alloc (.cells #[.int .i64 (s.list.length : Int), .int .u64 0, .bool true] 174)) (fun _ _ => by simp)).kept HG.out (.inr (fun e => hdbt e.symm))
  have T2 := ((ownsRow_setCell T1 (a := ⟨b, 3, none⟩) (fun e => hbtb (by simpa [Value.ownBlock] using e)) (.slice (some ⟨g, 0, none⟩) (s.done.length + 1) c')).alloc (.cells #[.int .i64 a, .int .u64 v] 136)).kept hg2 (.inr (fun e => hlbt e.symm))
  have f4 : w3.cell? ⟨bt, k, none⟩ = some (.int .i64 0) := ownsRow_cell T2 k _ (by simp [HTK.out])
  have f5 : w3.frozen? ⟨bt, k, none⟩ = false := ownsRow_froz T2 k
  clear hl hg2 hgg2 B3 T1 T2 e1 e3 e4 e5 e6
  go_wp2_with fail
  refine wp_region_fr [(1, [0, 1, 2, 3, 4, 5, 6, 7, 8, 9, 10]), (3, [11])] [] (by kernel_rfl) (by kernel_rfl) ?_
  simp only [theOps, nthOp, List.map_cons, List.map_nil, Array.getD_eq_getD_getElem?, List.getElem?_toArray, List.getElem?_cons_succ, List.getElem?_cons_zero, Option.getD_some]
  repeat ((first | refine wpSegs_soft ?_ | refine wpSegs_pure ?_ | refine wpSegs_here ?_); (repeat (first | go_big_quiet_step (fail) | quiet_step (fail))); refine wpQuiet_nil ?_)
  refine wpSegs_hard ?_
  go_wp2_with fail
  refine wpSegs_done ?_
  go_wp2
  go_ret
  refine ⟨by simp [put, HX.out, Nat.not_le.2 hfull], ?_⟩
  exact put_new_close H.out HX.out hfull hk HTK.out HW.out (((Fr.refl [] w).drewN (q + nq + 1)).alloc _) HG.out HD.out (by rcases HGG.out with e | e; exact .inl e; exact .inr (by rw [e]; simp))
    ((Fr.refl [] _).alloc _) HG2.out HL.out (by rcases HGG2.out with e | e; exact .inl e; exact .inr (by omega)) ((Fr.refl [] _).drew)

set_option maxRecDepth 20000 in
theorem put_any (base b : Nat) (a v : Int) (w : World) (fp : List Nat) (s : S) (h : IsSet w base b fp s) (hdn : s.done.length ≤ 1000000) (hbase : base ≤ w.heap.size) :
    Calls Try.prog 106 #[.pointer (some ⟨b, 0, none⟩), .int .i64 a, .int .u64 v] w (PutPost w base b fp s a v) := by
  obtain ⟨vl, vt, vd, m, tab, pos, hs, rfl⟩ := h
  cases hx : idx s.list a with
  | some i => exact put_hit base b a v w vl vt vd m tab pos s hs i hx hdn hbase
  | none =>
    by_cases hf : s.room ≤ s.list.length
    · exact put_full base b a v w vl vt vd m tab pos s hs hx hf
    · exact put_new base b a v w vl vt vd m tab pos s hs hx (by omega) hdn hbase
end Go.Proofs.Ytccioehckfdjdaa
