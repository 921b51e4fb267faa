/- The walks of (*wset.Set).Len, Room, Mark, Get. -/
import Derived.Test.YtccioehckfdjdaaWput
namespace Go.Proofs.Ytccioehckfdjdaa
open Go.RowKit Go.Tum Go.Tum.W

theorem ownsRow_any {w : World} {base : Nat} {e : TypeId} {size : Nat} {v : Value} {n : Nat} {xs : List Value}
    (h : w.ownsRow base e size v n xs) : ∃ la lc, v = .slice la n lc := by
  rcases ownsRow_form h with ⟨e, e2⟩ | ⟨g, cap, e, _⟩
  · exact ⟨none, 0, by rw [e, e2]⟩
  · exact ⟨_, _, e⟩

set_option maxHeartbeats 400000 in
theorem len_any (base b : Nat) (w : World) (fp : List Nat) (s : S) (h : IsSet w base b fp s) :
    Calls Try.prog 46 #[.pointer (some ⟨b, 0, none⟩)] w fun e w' => e = .returned (.int .i64 s.list.length) ∧ w = w' := by
  obtain ⟨vl, vt, vd, m, tab, pos, h, rfl⟩ := h
  obtain ⟨la, lc, rfl⟩ := ownsRow_any h.rlist
  have h1 := h.blk.cell 1
  simp only [List.getElem?_cons_succ, List.getElem?_cons_zero] at h1
  clear h
  go_enter Try.func46, Try.ntmps46
  go_wp2
  go_ret
  exact ⟨rfl, rfl⟩

set_option maxHeartbeats 400000 in
theorem mark_any (base b : Nat) (w : World) (fp : List Nat) (s : S) (h : IsSet w base b fp s) :
    Calls Try.prog 39 #[.pointer (some ⟨b, 0, none⟩)] w fun e w' => e = .returned (.int .i64 s.done.length) ∧ w = w' := by
  obtain ⟨vl, vt, vd, m, tab, pos, h, rfl⟩ := h
  obtain ⟨la, lc, rfl⟩ := ownsRow_any h.rdone
  have h1 := h.blk.cell 3
  simp only [List.getElem?_cons_succ, List.getElem?_cons_zero] at h1
  clear h
  go_enter Try.func39, Try.ntmps39
  go_wp2
  go_ret
  exact ⟨rfl, rfl⟩


set_option maxHeartbeats 1000000 in
theorem get_hit (base b : Nat) (a : Int) (w : World) (vl vt vd : Value) (m : Nat) (tab : List Int) (pos : Nat → Nat) (s : S) (h : SetAt w base b vl vt vd m tab pos s)
    (i : Nat) (hx : idx s.list a = some i) :
    Calls Try.prog 36 #[.pointer (some ⟨b, 0, none⟩), .int .i64 a] w fun e w' => e = .returned (.tuple #[.int .u64 (W.get s a).1, .bool (W.get s a).2]) ∧ ∃ n, w' = w.drewN n := by
  obtain ⟨bt, c, rfl, hbt, hb2, hmc, hcm⟩ := h.vt_form
  obtain ⟨hi, hai⟩ := idx_some hx
  obtain ⟨bl, cl, rfl, hbl, hbl2, hlc, hlm⟩ := h.vl_form (by omega)
  have h1 := h.blk.cell 1
  have h2 := h.blk.cell 2
  simp only [List.getElem?_cons_succ, List.getElem?_cons_zero] at h1 h2
  have hlc1 := (h.list_cell hi).2
  unfold maxLen at hcm hlm
  have hm1 := h.ok.bound
  have hl1 : s.list.length ≤ 65536 := Nat.le_trans h.few h.room
  have hget : W.get s a = (s.list[i].2, true) := by simp [W.get, hx, List.getD, List.getElem?_eq_getElem hi]
  rw [hget]
  clear hget
  generalize hold : s.list[i].2 = old at *
  have H := Lib.hid h; clear h
  have HX := Lib.hid hx; clear hx hold hai
  go_enter Try.func36, Try.ntmps36
  go_wp2_with fail
  refine wp_region_fr [(1, [0, 1, 2, 3, 4, 5]), (2, [6]), (0, [7]), (3, [8]), (0, [9])] [] (by kernel_rfl) (by kernel_rfl) ?_
  simp only [theOps, nthOp, List.map_cons, List.map_nil, Array.getD_eq_getD_getElem?, List.getElem?_toArray, List.getElem?_cons_succ, List.getElem?_cons_zero, Option.getD_some]
  repeat ((first | refine wpSegs_soft ?_ | refine wpSegs_pure ?_ | refine wpSegs_here ?_); (repeat (first | go_big_quiet_step (fail) | quiet_step (fail))); refine wpQuiet_nil ?_)
  refine wpSegs_keep ?_
  go_wp2_with fail
  refine (slot_any base b a _ _ _ _ m tab pos s (H.out.drewN 1)).mono ?_
  rintro e w' ⟨k, q, rfl, hS, rfl⟩
  obtain ⟨hk, ⟨i', hx', hp, hi', htk⟩ | ⟨hx', _⟩⟩ := hS
  rotate_left
  · rw [HX.out] at hx'; cases hx'
  rw [HX.out] at hx'
  injection hx' with hii
  subst hii
  have htc := H.out.tab_cell htk
  have hnz : (((i : Int) + 1) == 0) = false := by simp; omega
  clear hp hi'
  have HTK := Lib.hid htk; clear htk
  go_wp2_with fail
  refine ⟨⟨⟨_, (by exact ⟨rfl, rfl, rfl, Nat.le_refl _, fun _ _ _ => rfl⟩)⟩, rfl⟩, ?_⟩
  repeat ((first | refine wpSegs_soft ?_ | refine wpSegs_pure ?_ | refine wpSegs_here ?_); (repeat (first | go_big_quiet_step (fail) | quiet_step (fail))); refine wpQuiet_nil ?_)
  refine wpSegs_hard ?_
  go_wp2_with fail
  repeat ((first | refine wpSegs_soft ?_ | refine wpSegs_pure ?_ | refine wpSegs_here ?_); (repeat (first | go_big_quiet_step (fail) | quiet_step (fail))); refine wpQuiet_nil ?_)
  refine wpSegs_done ?_
  go_wp2
  go_ret2
  exact ⟨rfl, _, rfl⟩

set_option maxHeartbeats 1000000 in
theorem get_miss (base b : Nat) (a : Int) (w : World) (vl vt vd : Value) (m : Nat) (tab : List Int) (pos : Nat → Nat) (s : S) (h : SetAt w base b vl vt vd m tab pos s)
    (hx : idx s.list a = none) :
    Calls Try.prog 36 #[.pointer (some ⟨b, 0, none⟩), .int .i64 a] w fun e w' => e = .returned (.tuple #[.int .u64 (W.get s a).1, .bool (W.get s a).2]) ∧ ∃ n, w' = w.drewN n := by
  obtain ⟨bt, c, rfl, hbt, hb2, hmc, hcm⟩ := h.vt_form
  have h2 := h.blk.cell 2
  simp only [List.getElem?_cons_succ, List.getElem?_cons_zero] at h2
  unfold maxLen at hcm
  have hm1 := h.ok.bound
  have hget : W.get s a = (0, false) := by simp [W.get, hx]
  rw [hget]
  clear hget
  have H := Lib.hid h; clear h
  have HX := Lib.hid hx; clear hx
  go_enter Try.func36, Try.ntmps36
  go_wp2_with fail
  refine wp_region_fr [(1, [0, 1, 2, 3, 4, 5]), (2, [6]), (0, [7]), (3, [8]), (0, [9])] [] (by kernel_rfl) (by kernel_rfl) ?_
  simp only [theOps, nthOp, List.map_cons, List.map_nil, Array.getD_eq_getD_getElem?, List.getElem?_toArray, List.getElem?_cons_succ, List.getElem?_cons_zero, Option.getD_some]
  repeat ((first | refine wpSegs_soft ?_ | refine wpSegs_pure ?_ | refine wpSegs_here ?_); (repeat (first | go_big_quiet_step (fail) | quiet_step (fail))); refine wpQuiet_nil ?_)
  refine wpSegs_keep ?_
  go_wp2_with fail
  refine (slot_any base b a _ _ _ _ m tab pos s (H.out.drewN 1)).mono ?_
  rintro e w' ⟨k, q, rfl, hS, rfl⟩
  obtain ⟨hk, ⟨i', hx', hp, hi', htk⟩ | ⟨hx', htk, _⟩⟩ := hS
  · rw [HX.out] at hx'; cases hx'
  have htc := H.out.tab_cell htk
  clear hx'
  have HTK := Lib.hid htk; clear htk
  go_wp2_with fail
  refine ⟨⟨⟨_, (by exact ⟨rfl, rfl, rfl, Nat.le_refl _, fun _ _ _ => rfl⟩)⟩, rfl⟩, ?_⟩
  repeat ((first | refine wpSegs_soft ?_ | refine wpSegs_pure ?_ | refine wpSegs_here ?_); (repeat (first | go_big_quiet_step (fail) | quiet_step (fail))); refine wpQuiet_nil ?_)
  refine wpSegs_hard ?_
  go_wp2_with fail
  repeat ((first | refine wpSegs_soft ?_ | refine wpSegs_pure ?_ | refine wpSegs_here ?_); (repeat (first | go_big_quiet_step (fail) | quiet_step (fail))); refine wpQuiet_nil ?_)
  refine wpSegs_done ?_
  go_wp2
  go_ret2
  exact ⟨rfl, _, rfl⟩

theorem get_any (base b : Nat) (a : Int) (w : World) (fp : List Nat) (s : S) (h : IsSet w base b fp s) :
    Calls Try.prog 36 #[.pointer (some ⟨b, 0, none⟩), .int .i64 a] w fun e w' => e = .returned (.tuple #[.int .u64 (W.get s a).1, .bool (W.get s a).2]) ∧ ∃ n, w' = w.drewN n := by
  obtain ⟨vl, vt, vd, m, tab, pos, hs, rfl⟩ := h
  cases hx : idx s.list a with
  | some i => exact get_hit base b a w vl vt vd m tab pos s hs i hx
  | none => exact get_miss base b a w vl vt vd m tab pos s hs hx
end Go.Proofs.Ytccioehckfdjdaa
