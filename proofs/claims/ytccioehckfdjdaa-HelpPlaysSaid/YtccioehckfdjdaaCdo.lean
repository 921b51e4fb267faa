/- The walk of (*cell.Mem).Do. -/
import Derived.Test.YtccioehckfdjdaaCbase
import Derived.Laws.StructEq
set_option linter.unusedSimpArgs false
set_option linter.unusedVariables false
namespace Go.Proofs.Ytccioehckfdjdaa
open Go.RowKit Go.Tum Go.Tum.C

def opVm (op : Op6) : Value := .agg #[.int .i64 op.k, .int .i64 op.a, .int .u64 op.ov, .int .u64 op.os, .int .u64 op.nv, .int .u64 op.ns]
def outVm (o : Out3) : Value := .agg #[.int .u64 o.v, .int .u64 o.s, .bool o.ok]

set_option maxHeartbeats 2000000 in
theorem do_err {w0 w : World} {R : List Thing} {b : Nat} {m : M} (h : Sep w0 w (memT b m :: R)) (who : Int) (op : Op6) (he : err m.cells.length who op ≠ 0) :
    Calls Try.prog 71 #[.pointer (some ⟨b, 0, none⟩), .int .i64 who, opVm op] w fun e w' => e = .returned (.tuple #[outVm (m.told who op), .int .i64 (err m.cells.length who op)]) ∧ Sep w0 w' (memT b (m.step who op) :: R) := by
  have e1 : m.told who op = ⟨0, 0, false⟩ := by unfold M.told; rw [if_neg he]
  have e2 : m.step who op = m := by unfold M.step; rw [if_neg he]
  rw [e1, e2]
  clear e1 e2
  obtain ⟨_, vc, vt, hm⟩ := sep_mem h 0 rfl
  generalize hee : err m.cells.length who op = er at *
  have hn1 : (er != 0) = true := by simpa using he
  have hn2 : (er == 0) = false := by simpa using he
  have H := Lib.hid h; have HM := Lib.hid hm; have HE := Lib.hid he; have HEE := Lib.hid hee
  clear h hm he hee
  obtain ⟨k, a, ov, os, nv, ns⟩ := op
  unfold opVm outVm
  dsimp only
  go_enter Try.func71, Try.ntmps71
  go_wp2_with fail
  refine (check_any _ b vc vt m who ⟨k, a, ov, os, nv, ns⟩ ((HM.out.fr ((Fr.refl [] _).alloc _) (by simp)).fr ((Fr.refl [] _).alloc _) (by simp))).mono ?_
  rintro e w1 ⟨rfl, hf⟩
  have hS := ((H.out.new 43 [.int .i64 k, .int .i64 a, .int .u64 ov, .int .u64 os, .int .u64 nv, .int .u64 ns]).new 55 [.int .u64 0, .int .u64 0, .bool false]).fr0 hf
  have hbl := (hS.blk 0 rfl).lt
  have f0 := (hS.blk 0 rfl).froz 0
  have f1 := (hS.blk 0 rfl).froz 1
  have f2 := (hS.blk 0 rfl).froz 2
  have c0 := (hS.blk 0 rfl).cell 0
  have c1 := (hS.blk 0 rfl).cell 1
  have c2 := (hS.blk 0 rfl).cell 2
  simp only [List.getElem?_cons_zero, List.getElem?_cons_succ, World.size_alloc] at c0 c1 c2 f0 f1 f2 hbl
  have HS := Lib.hid hS
  clear hS hf
  rw [HEE.out]
  go_wp2_with fail
  have h2 := ((HS.out.set 0 rfl 0 (.int .u64 0)).set 0 rfl 1 (.int .u64 0)).set 0 rfl 2 (.bool false)
  simp only [World.size_alloc] at h2
  have k0 := (h2.blk 0 rfl).cell 0
  have k1 := (h2.blk 0 rfl).cell 1
  have k2 := (h2.blk 0 rfl).cell 2
  simp only [List.set_cons_zero, List.set_cons_succ, List.getElem?_cons_succ, List.getElem?_cons_zero] at k0 k1 k2
  exact bodyPost_ret (v := .tuple #[.agg #[.int .u64 0, .int .u64 0, .bool false], .int .i64 er]) (by simp [results, Try.results71, go_sem, k0, k1, k2]) rfl ⟨rfl, h2.tail.tail⟩

/-- What a step without an error leaves, the cell being 'c'. -/
theorem step_ok {m : M} {who : Nat} {op : Op6} {a : Nat} (he : err m.cells.length who op = 0) (ha : op.a = a) :
    m.step who op = ⟨m.cells.set a (becomes (m.at a) op), m.steps.set who (m.cnt who + 1), m.trace ++ [⟨who, op, outOf (m.at a) op⟩]⟩ ∧ m.told who op = outOf (m.at a) op := by
  unfold M.step M.told
  rw [if_pos he, if_pos he, ha]
  simp

theorem set_at {m : M} {a : Nat} (h : a < m.cells.length) : m.cells.set a (m.at a) = m.cells := by
  simp [M.at, List.getD_eq_getElem?_getD, h]
set_option maxHeartbeats 4000000 in
theorem do_load {w0 w : World} {R : List Thing} {b : Nat} {m : M} (h : Sep w0 w (memT b m :: R)) (ht : m.trace.length ≤ 100000) (who : Nat) (op : Op6) (he : err m.cells.length who op = 0) (hk : op.k = 0) :
    Calls Try.prog 71 #[.pointer (some ⟨b, 0, none⟩), .int .i64 who, opVm op] w fun e w' => e = .returned (.tuple #[outVm (m.told who op), .int .i64 0]) ∧ Sep w0 w' (memT b (m.step who op) :: R) := by
  obtain ⟨w0', w8, k0, k3, a0, an⟩ := err_zero he
  obtain ⟨k, a, ov, os, nv, ns⟩ := op
  dsimp only at hk k0 k3 a0 an
  obtain ⟨a, rfl⟩ : ∃ n : Nat, a = n := ⟨a.toNat, by omega⟩
  obtain ⟨e1, e2⟩ := step_ok (m := m) (who := who) he rfl
  rw [e1, e2]
  clear e1 e2
  have hal : a < m.cells.length := by omega
  obtain ⟨hG, vc, vt, h⟩ := open_mem h
  have hM := sep_raw h 0 rfl
  obtain ⟨g, n, rfl, hgl, hgc⟩ : ∃ g n, vc = .slice (some ⟨g, 0, none⟩) m.cells.length n ∧ g < w.heap.size ∧ m.cells.length ≤ n := by
    rcases ownsRow_form hM.rc with ⟨_, e⟩ | ⟨g, n, e, h1, _, h2, _⟩
    · omega
    · exact ⟨g, n, e, h1, h2⟩
  have HG := Lib.hid hG; have H := Lib.hid h; have HE := Lib.hid he
  have hai : (a : Int) < (m.cells.length : Int) := an
  clear h hG hM he
  unfold opVm outVm
  dsimp only
  subst hk
  go_enter Try.func71, Try.ntmps71
  go_wp2_with fail
  have h0 := (H.out.new 43 [.int .i64 0, .int .i64 a, .int .u64 ov, .int .u64 os, .int .u64 nv, .int .u64 ns]).new 55 [.int .u64 0, .int .u64 0, .bool false]
  refine (check_any _ b _ vt m who ⟨0, a, ov, os, nv, ns⟩ (sep_raw h0 2 rfl)).mono ?_
  rintro e w1 ⟨rfl, hf⟩
  rw [HE.out]
  have hS := h0.fr0 hf
  have hO := hS.blk 1 rfl
  have o0 := hO.cell 0
  have o1 := hO.cell 1
  have o2 := hO.cell 2
  have o3 := hO.cell 3
  have o4 := hO.cell 4
  have o5 := hO.cell 5
  have hM := sep_raw hS 2 rfl
  have c0 := hM.c0
  have gf0 := hM.frozC (a * 2)
  have gf1 := hM.frozC (a * 2 + 1)
  have hl4 := hM.ltC
  obtain ⟨d0, d1⟩ := hM.cell hal
  have hl1 := hM.blk.lt
  have hl2 := hO.lt
  have hl3 := (hS.blk 0 rfl).lt
  simp only [List.getElem?_cons_zero, List.getElem?_cons_succ, World.size_alloc] at o0 o1 o2 o3 o4 o5 hl2 hl3
  have HS := Lib.hid hS
  clear hS hO hM hf h0
  go_wp2_with fail
  refine wp_region_fr [(1, [0, 1, 2, 3, 4, 5, 6, 7])] [] (by kernel_rfl) (by kernel_rfl) ?_
  simp only [theOps, nthOp, List.map_cons, List.map_nil, Array.getD_eq_getD_getElem?, List.getElem?_toArray, List.getElem?_cons_succ, List.getElem?_cons_zero, Option.getD_some]
  repeat ((first | refine wpSegs_soft ?_ | refine wpSegs_pure ?_ | refine wpSegs_here ?_); (repeat (first | go_big_quiet_step (fail) | quiet_step (fail))); refine wpQuiet_nil ?_)
  refine wpSegs_done ?_
  go_wp2_with fail
  have hS := (HS.out.new 55 [.int .u64 (m.at a).1, .int .u64 (m.at a).2, .bool true]).drew
  generalize (w1.alloc (.cells #[.int .u64 (m.at a).1, .int .u64 (m.at a).2, .bool true] 55)).drew = W at *
  clear HS o0 o1 o2 o3 o4 o5 c0 d0 d1 hl1 hl2 hl3 gf0 gf1
  obtain ⟨i0, hi0, hz0, hz1, hz2⟩ := info_parts C_infoEvent
  have hw8 : who < 8 := by omega
  have hs0 := HG.out.bound hw8
  have hti : (m.trace.length : Int) ≤ 100000 := by omega
  obtain ⟨tla, tlc, rfl⟩ := ownsRow_any (sep_raw hS 3 rfl).rt
  have hT := hS.blk 0 rfl
  have hR1 := hS.blk 1 rfl
  have hO := hS.blk 2 rfl
  have hM := sep_raw hS 3 rfl
  have t0 := hT.cell 0
  have t1 := hT.cell 1
  have t2 := hT.cell 2
  have o0 := hO.cell 0
  have o1 := hO.cell 1
  have o2 := hO.cell 2
  have o3 := hO.cell 3
  have o4 := hO.cell 4
  have o5 := hO.cell 5
  have r0 := hR1.froz 0
  have r1 := hR1.froz 1
  have r2 := hR1.froz 2
  have m9 := hM.c9
  have ms := hM.cs hw8
  have mf := hM.blk.froz 9
  have mg := hM.blk.froz (1 + who)
  rw [Nat.add_comm who 1] at ms
  simp only [List.getElem?_cons_zero, List.getElem?_cons_succ] at t0 t1 t2 o0 o1 o2 o3 o4 o5
  have tl := hT.lt
  have rl := hR1.lt
  have ol := hO.lt
  have ml := hM.blk.lt
  have mt := hM.nb2
  have HS := Lib.hid hS
  clear hS hT hR1 hO hM
  try simp only [World.size_alloc] at *
  change _ = some (Value.int .i64 (m.cnt who)) at ms
  generalize hst : m.cnt who = st at *
  have HST := Lib.hid hst; clear hst
  generalize hW : w1.heap.size = tb at *
  clear hW
  go_wp2_with fail
  refine wp_region_fr [(1, [0, 1, 2, 3, 4, 5, 6, 7, 8, 9]), (3, [10])] [] (by kernel_rfl) (by kernel_rfl) ?_
  simp only [theOps, nthOp, List.map_cons, List.map_nil, Array.getD_eq_getD_getElem?, List.getElem?_toArray, List.getElem?_cons_succ, List.getElem?_cons_zero, Option.getD_some]
  repeat ((first | refine wpSegs_soft ?_ | refine wpSegs_pure ?_ | refine wpSegs_here ?_); (repeat (first | go_big_quiet_step (fail) | quiet_step (fail))); refine wpQuiet_nil ?_)
  refine wpSegs_hard ?_
  go_wp2_with fail
  refine wpSegs_done ?_
  go_wp2_with fail
  have hS := (sep_setS HS.out 3 rfl hw8 (st + 1)).drew
  rw [Nat.add_comm who 1] at hS
  generalize (W.setCell ⟨b, 1 + who, none⟩ (.int .i64 (st + 1))).drew = W2 at *
  clear HS t0 t1 t2 o0 o1 o2 o3 o4 o5 r0 r1 r2 m9 ms mf mg tl rl ol ml mt
  have hT := hS.blk 0 rfl
  have hR1 := hS.blk 1 rfl
  have hO := hS.blk 2 rfl
  have hM := sep_raw hS 3 rfl
  have t0 := hT.cell 0
  have t1 := hT.cell 1
  have t2 := hT.cell 2
  have o0 := hO.cell 0
  have o1 := hO.cell 1
  have o2 := hO.cell 2
  have o3 := hO.cell 3
  have o4 := hO.cell 4
  have o5 := hO.cell 5
  have r0 := hR1.froz 0
  have r1 := hR1.froz 1
  have r2 := hR1.froz 2
  have m9 := hM.c9
  have ms := hM.cs hw8
  have mf := hM.blk.froz 9
  have mg := hM.blk.froz (1 + who)
  rw [Nat.add_comm who 1] at ms
  simp only [List.getElem?_cons_zero, List.getElem?_cons_succ] at t0 t1 t2 o0 o1 o2 o3 o4 o5
  have tl := hT.lt
  have rl := hR1.lt
  have ol := hO.lt
  have ml := hM.blk.lt
  have mt := hM.nb2
  have HS := Lib.hid hS
  clear hS hT hR1 hO hM
  try simp only [World.size_alloc] at *
  refine wp_region_fr [(1, [1, 2, 3, 4, 5, 6, 7, 8]), (0, [0]), (2, [9]), (3, [10]), (0, [11, 12]), (3, [13])] [] (by kernel_rfl) (by kernel_rfl) ?_
  simp only [theOps, nthOp, List.map_cons, List.map_nil, Array.getD_eq_getD_getElem?, List.getElem?_toArray, List.getElem?_cons_succ, List.getElem?_cons_zero, Option.getD_some]
  repeat ((first | refine wpSegs_soft ?_ | refine wpSegs_pure ?_ | refine wpSegs_here ?_); (repeat (first | go_big_quiet_step (fail) | quiet_step (fail))); refine wpQuiet_nil ?_)
  refine wpSegs_keep ?_
  go_wp2_with fail
  refine ⟨⟨⟨_, (by exact Fr.from_drew ((Fr.refl _ _).alloc _).drew)⟩, rfl⟩, ?_⟩
  have h2 := (HS.out.new 134 (enEv ⟨who, ⟨0, a, ov, os, nv, ns⟩, ⟨(m.at a).1, (m.at a).2, true⟩⟩)).drew
  have ho := (sep_raw h2 4 rfl).rt
  have hbk := h2.blk 0 rfl
  have HS2 := Lib.hid h2
  clear h2
  refine wpSegs_hard ?_
  refine wpList_push_blk _ rfl _ _ 131 rfl 0 134 i0 _ 10 80 Try.underlying131 hi0 hz0 hz1 hz2 rfl (by decide) (.slice tla m.trace.length tlc) m.trace.length (flat enEv m.trace) rfl ho (enEv ⟨who, ⟨0, a, ov, os, nv, ns⟩, ⟨(m.at a).1, (m.at a).2, true⟩⟩) _ _ rfl hbk rfl (enEv_one _) (by unfold maxLen; omega) (by omega) (Nat.zero_le _) ?_
  intro g6 c6 w6 hown6 hg6 hgg6 hc1 hc2
  simp only [Act.put, List.setIfInBounds_toArray, List.set_cons_zero, List.set_cons_succ]
  have h3 := sep_pushT HS2.out 4 rfl hown6 rfl hg6 (fun q e => by
    rcases hgg6 with h1 | h1
    · exact .inl (h1.trans e)
    · right; simp only [Value.ownBlock, Option.some.injEq] at e; rw [← e, h1]; exact Nat.le_refl _)
  have mlz := hg6.size
  simp only [World.size_drew, World.size_alloc] at mlz
  have mf6 : w6.frozen? ⟨b, 9, none⟩ = false := by
    have f6 := (sep_raw HS2.out 4 rfl).blk.froz 9
    have f7 := (Fr.refl (Value.slice tla m.trace.length tlc).ownBlock.toList _).grown hg6 (fun k e => .inl (by simp [e]))
    exact f7.froz f6 (sep_raw HS2.out 4 rfl).blk.lt (fun hm => mt b (by simpa using hm) rfl)
  have m96 : w6.cell? ⟨b, 9, none⟩ = some (.slice tla m.trace.length tlc) := by
    have f7 := (Fr.refl (Value.slice tla m.trace.length tlc).ownBlock.toList _).grown hg6 (fun k e => .inl (by simp [e]))
    exact f7.cell (sep_raw HS2.out 4 rfl).c9 (fun hm => mt b (by simpa using hm) rfl)
  have HS3 := Lib.hid h3
  clear h3 ho hbk HS2 HS t0 t1 t2 o0 o1 o2 o3 o4 o5 r0 r1 r2 m9 ms mf mg mt
  repeat ((first | refine wpSegs_soft ?_ | refine wpSegs_pure ?_ | refine wpSegs_here ?_); (repeat (first | go_big_quiet_step (fail) | quiet_step (fail))); refine wpQuiet_nil ?_)
  refine wpSegs_hard ?_
  go_wp2_with fail
  refine wpSegs_done ?_
  have hS := HS3.out.tail
  generalize w6.setCell ⟨b, 9, none⟩ (.slice (some ⟨g6, 0, none⟩) (m.trace.length + 1) c6) = W3 at *
  have hT := hS.blk 0 rfl
  have hR1 := hS.blk 1 rfl
  have t0 := hT.cell 0
  have t1 := hT.cell 1
  have t2 := hT.cell 2
  have z0 := hR1.cell 0
  have z1 := hR1.cell 1
  have z2 := hR1.cell 2
  have r0 := hR1.froz 0
  have r1 := hR1.froz 1
  have r2 := hR1.froz 2
  simp only [List.getElem?_cons_zero, List.getElem?_cons_succ] at t0 t1 t2 z0 z1 z2
  have tl2 := hT.lt
  have rl2 := hR1.lt
  have HS := Lib.hid hS
  clear hS hT hR1
  go_wp2_with fail
  have h4 := ((HS.out.set 1 rfl 0 (.int .u64 (m.at a).1)).set 1 rfl 1 (.int .u64 (m.at a).2)).set 1 rfl 2 (.bool true)
  have k0 := (h4.blk 1 rfl).cell 0
  have k1 := (h4.blk 1 rfl).cell 1
  have k2 := (h4.blk 1 rfl).cell 2
  simp only [List.set_cons_zero, List.set_cons_succ, List.getElem?_cons_succ, List.getElem?_cons_zero] at k0 k1 k2
  refine bodyPost_ret (v := .tuple #[.agg #[.int .u64 (m.at a).1, .int .u64 (m.at a).2, .bool true], .int .i64 0]) (by simp [results, Try.results71, go_sem, k0, k1, k2]) rfl ⟨by simp [outOf], ?_⟩
  have h5 := h4.tail.tail.tail
  have hgd := good_step HG.out who ⟨0, a, ov, os, nv, ns⟩
  rw [(step_ok (m := m) (who := who) HE.out rfl).1] at hgd
  rw [HST.out] at hgd ⊢
  refine shut_mem (vc := .slice (some ⟨g, 0, none⟩) m.cells.length n) (vt := .slice (some ⟨g6, 0, none⟩) (m.trace.length + 1) c6) ?_ hgd
  have hcl : m.cells.set a (becomes (m.at a) ⟨0, a, ov, os, nv, ns⟩) = m.cells := by simp [becomes, set_at hal]
  have hou : outOf (m.at a) ⟨0, a, ov, os, nv, ns⟩ = ⟨(m.at a).1, (m.at a).2, true⟩ := by simp [outOf]
  rw [hcl, hou]
  exact h5

set_option maxHeartbeats 4000000 in
theorem do_store {w0 w : World} {R : List Thing} {b : Nat} {m : M} (h : Sep w0 w (memT b m :: R)) (ht : m.trace.length ≤ 100000) (who : Nat) (op : Op6) (he : err m.cells.length who op = 0) (hk : op.k = 1) :
    Calls Try.prog 71 #[.pointer (some ⟨b, 0, none⟩), .int .i64 who, opVm op] w fun e w' => e = .returned (.tuple #[outVm (m.told who op), .int .i64 0]) ∧ Sep w0 w' (memT b (m.step who op) :: R) := by
  obtain ⟨w0', w8, k0, k3, a0, an⟩ := err_zero he
  obtain ⟨k, a, ov, os, nv, ns⟩ := op
  dsimp only at hk k0 k3 a0 an
  obtain ⟨a, rfl⟩ : ∃ n : Nat, a = n := ⟨a.toNat, by omega⟩
  obtain ⟨e1, e2⟩ := step_ok (m := m) (who := who) he rfl
  rw [e1, e2]
  clear e1 e2
  have hal : a < m.cells.length := by omega
  obtain ⟨hG, vc, vt, h⟩ := open_mem h
  have hM := sep_raw h 0 rfl
  obtain ⟨g, n, rfl, hgl, hgc⟩ : ∃ g n, vc = .slice (some ⟨g, 0, none⟩) m.cells.length n ∧ g < w.heap.size ∧ m.cells.length ≤ n := by
    rcases ownsRow_form hM.rc with ⟨_, e⟩ | ⟨g, n, e, h1, _, h2, _⟩
    · omega
    · exact ⟨g, n, e, h1, h2⟩
  have HG := Lib.hid hG; have H := Lib.hid h; have HE := Lib.hid he
  have hai : (a : Int) < (m.cells.length : Int) := an
  clear h hG hM he
  unfold opVm outVm
  dsimp only
  subst hk
  go_enter Try.func71, Try.ntmps71
  go_wp2_with fail
  have h0 := (H.out.new 43 [.int .i64 1, .int .i64 a, .int .u64 ov, .int .u64 os, .int .u64 nv, .int .u64 ns]).new 55 [.int .u64 0, .int .u64 0, .bool false]
  refine (check_any _ b _ vt m who ⟨1, a, ov, os, nv, ns⟩ (sep_raw h0 2 rfl)).mono ?_
  rintro e w1 ⟨rfl, hf⟩
  rw [HE.out]
  have hS := h0.fr0 hf
  have hO := hS.blk 1 rfl
  have o0 := hO.cell 0
  have o1 := hO.cell 1
  have o2 := hO.cell 2
  have o3 := hO.cell 3
  have o4 := hO.cell 4
  have o5 := hO.cell 5
  have hM := sep_raw hS 2 rfl
  have c0 := hM.c0
  have gf0 := hM.frozC (a * 2)
  have gf1 := hM.frozC (a * 2 + 1)
  have hl4 := hM.ltC
  obtain ⟨d0, d1⟩ := hM.cell hal
  have hl1 := hM.blk.lt
  have hl2 := hO.lt
  have hl3 := (hS.blk 0 rfl).lt
  simp only [List.getElem?_cons_zero, List.getElem?_cons_succ, World.size_alloc] at o0 o1 o2 o3 o4 o5 hl2 hl3
  have HS := Lib.hid hS
  clear hS hO hM hf h0
  go_wp2_with fail
  refine wp_region_fr [(1, [0, 1, 2, 3, 4, 5, 6, 7])] [] (by kernel_rfl) (by kernel_rfl) ?_
  simp only [theOps, nthOp, List.map_cons, List.map_nil, Array.getD_eq_getD_getElem?, List.getElem?_toArray, List.getElem?_cons_succ, List.getElem?_cons_zero, Option.getD_some]
  repeat ((first | refine wpSegs_soft ?_ | refine wpSegs_pure ?_ | refine wpSegs_here ?_); (repeat (first | go_big_quiet_step (fail) | quiet_step (fail))); refine wpQuiet_nil ?_)
  refine wpSegs_done ?_
  go_wp2_with fail
  have hS := ((sep_setC HS.out 2 rfl hal nv ns).new 55 [.int .u64 (m.at a).1, .int .u64 (m.at a).2, .bool true]).drew
  simp only [World.size_setCell] at hS
  generalize (((w1.setCell ⟨g, a * 2, none⟩ (.int .u64 nv)).setCell ⟨g, a * 2 + 1, none⟩ (.int .u64 ns)).alloc (.cells #[.int .u64 (m.at a).1, .int .u64 (m.at a).2, .bool true] 55)).drew = W at *
  clear HS o0 o1 o2 o3 o4 o5 c0 d0 d1 hl1 hl2 hl3 gf0 gf1 hl4
  obtain ⟨i0, hi0, hz0, hz1, hz2⟩ := info_parts C_infoEvent
  have hw8 : who < 8 := by omega
  have hs0 := HG.out.bound hw8
  have hti : (m.trace.length : Int) ≤ 100000 := by omega
  obtain ⟨tla, tlc, rfl⟩ := ownsRow_any (sep_raw hS 3 rfl).rt
  have hT := hS.blk 0 rfl
  have hR1 := hS.blk 1 rfl
  have hO := hS.blk 2 rfl
  have hM := sep_raw hS 3 rfl
  have t0 := hT.cell 0
  have t1 := hT.cell 1
  have t2 := hT.cell 2
  have o0 := hO.cell 0
  have o1 := hO.cell 1
  have o2 := hO.cell 2
  have o3 := hO.cell 3
  have o4 := hO.cell 4
  have o5 := hO.cell 5
  have r0 := hR1.froz 0
  have r1 := hR1.froz 1
  have r2 := hR1.froz 2
  have m9 := hM.c9
  have ms := hM.cs hw8
  have mf := hM.blk.froz 9
  have mg := hM.blk.froz (1 + who)
  rw [Nat.add_comm who 1] at ms
  simp only [List.getElem?_cons_zero, List.getElem?_cons_succ] at t0 t1 t2 o0 o1 o2 o3 o4 o5
  have tl := hT.lt
  have rl := hR1.lt
  have ol := hO.lt
  have ml := hM.blk.lt
  have mt := hM.nb2
  have HS := Lib.hid hS
  clear hS hT hR1 hO hM
  try simp only [World.size_alloc] at *
  change _ = some (Value.int .i64 (m.cnt who)) at ms
  generalize hst : m.cnt who = st at *
  have HST := Lib.hid hst; clear hst
  generalize hW : w1.heap.size = tb at *
  clear hW
  go_wp2_with fail
  refine wp_region_fr [(1, [0, 1, 2, 3, 4, 5, 6, 7, 8, 9]), (3, [10])] [] (by kernel_rfl) (by kernel_rfl) ?_
  simp only [theOps, nthOp, List.map_cons, List.map_nil, Array.getD_eq_getD_getElem?, List.getElem?_toArray, List.getElem?_cons_succ, List.getElem?_cons_zero, Option.getD_some]
  repeat ((first | refine wpSegs_soft ?_ | refine wpSegs_pure ?_ | refine wpSegs_here ?_); (repeat (first | go_big_quiet_step (fail) | quiet_step (fail))); refine wpQuiet_nil ?_)
  refine wpSegs_hard ?_
  go_wp2_with fail
  refine wpSegs_done ?_
  go_wp2_with fail
  have hS := (sep_setS HS.out 3 rfl hw8 (st + 1)).drew
  rw [Nat.add_comm who 1] at hS
  generalize (W.setCell ⟨b, 1 + who, none⟩ (.int .i64 (st + 1))).drew = W2 at *
  clear HS t0 t1 t2 o0 o1 o2 o3 o4 o5 r0 r1 r2 m9 ms mf mg tl rl ol ml mt
  have hT := hS.blk 0 rfl
  have hR1 := hS.blk 1 rfl
  have hO := hS.blk 2 rfl
  have hM := sep_raw hS 3 rfl
  have t0 := hT.cell 0
  have t1 := hT.cell 1
  have t2 := hT.cell 2
  have o0 := hO.cell 0
  have o1 := hO.cell 1
  have o2 := hO.cell 2
  have o3 := hO.cell 3
  have o4 := hO.cell 4
  have o5 := hO.cell 5
  have r0 := hR1.froz 0
  have r1 := hR1.froz 1
  have r2 := hR1.froz 2
  have m9 := hM.c9
  have ms := hM.cs hw8
  have mf := hM.blk.froz 9
  have mg := hM.blk.froz (1 + who)
  rw [Nat.add_comm who 1] at ms
  simp only [List.getElem?_cons_zero, List.getElem?_cons_succ] at t0 t1 t2 o0 o1 o2 o3 o4 o5
  have tl := hT.lt
  have rl := hR1.lt
  have ol := hO.lt
  have ml := hM.blk.lt
  have mt := hM.nb2
  have HS := Lib.hid hS
  clear hS hT hR1 hO hM
  try simp only [World.size_alloc] at *
  refine wp_region_fr [(1, [1, 2, 3, 4, 5, 6, 7, 8]), (0, [0]), (2, [9]), (3, [10]), (0, [11, 12]), (3, [13])] [] (by kernel_rfl) (by kernel_rfl) ?_
  simp only [theOps, nthOp, List.map_cons, List.map_nil, Array.getD_eq_getD_getElem?, List.getElem?_toArray, List.getElem?_cons_succ, List.getElem?_cons_zero, Option.getD_some]
  repeat ((first | refine wpSegs_soft ?_ | refine wpSegs_pure ?_ | refine wpSegs_here ?_); (repeat (first | go_big_quiet_step (fail) | quiet_step (fail))); refine wpQuiet_nil ?_)
  refine wpSegs_keep ?_
  go_wp2_with fail
  refine ⟨⟨⟨_, (by exact Fr.from_drew ((Fr.refl _ _).alloc _).drew)⟩, rfl⟩, ?_⟩
  have h2 := (HS.out.new 134 (enEv ⟨who, ⟨1, a, ov, os, nv, ns⟩, ⟨(m.at a).1, (m.at a).2, true⟩⟩)).drew
  have ho := (sep_raw h2 4 rfl).rt
  have hbk := h2.blk 0 rfl
  have HS2 := Lib.hid h2
  clear h2
  refine wpSegs_hard ?_
  refine wpList_push_blk _ rfl _ _ 131 rfl 0 134 i0 _ 10 80 Try.underlying131 hi0 hz0 hz1 hz2 rfl (by decide) (.slice tla m.trace.length tlc) m.trace.length (flat enEv m.trace) rfl ho (enEv ⟨who, ⟨1, a, ov, os, nv, ns⟩, ⟨(m.at a).1, (m.at a).2, true⟩⟩) _ _ rfl hbk rfl (enEv_one _) (by unfold maxLen; omega) (by omega) (Nat.zero_le _) ?_
  intro g6 c6 w6 hown6 hg6 hgg6 hc1 hc2
  simp only [Act.put, List.setIfInBounds_toArray, List.set_cons_zero, List.set_cons_succ]
  have h3 := sep_pushT HS2.out 4 rfl hown6 rfl hg6 (fun q e => by
    rcases hgg6 with h1 | h1
    · exact .inl (h1.trans e)
    · right; simp only [Value.ownBlock, Option.some.injEq] at e; rw [← e, h1]; exact Nat.le_refl _)
  have mlz := hg6.size
  simp only [World.size_drew, World.size_alloc] at mlz
  have mf6 : w6.frozen? ⟨b, 9, none⟩ = false := by
    have f6 := (sep_raw HS2.out 4 rfl).blk.froz 9
    have f7 := (Fr.refl (Value.slice tla m.trace.length tlc).ownBlock.toList _).grown hg6 (fun k e => .inl (by simp [e]))
    exact f7.froz f6 (sep_raw HS2.out 4 rfl).blk.lt (fun hm => mt b (by simpa using hm) rfl)
  have m96 : w6.cell? ⟨b, 9, none⟩ = some (.slice tla m.trace.length tlc) := by
    have f7 := (Fr.refl (Value.slice tla m.trace.length tlc).ownBlock.toList _).grown hg6 (fun k e => .inl (by simp [e]))
    exact f7.cell (sep_raw HS2.out 4 rfl).c9 (fun hm => mt b (by simpa using hm) rfl)
  have HS3 := Lib.hid h3
  clear h3 ho hbk HS2 HS t0 t1 t2 o0 o1 o2 o3 o4 o5 r0 r1 r2 m9 ms mf mg mt
  repeat ((first | refine wpSegs_soft ?_ | refine wpSegs_pure ?_ | refine wpSegs_here ?_); (repeat (first | go_big_quiet_step (fail) | quiet_step (fail))); refine wpQuiet_nil ?_)
  refine wpSegs_hard ?_
  go_wp2_with fail
  refine wpSegs_done ?_
  have hS := HS3.out.tail
  generalize w6.setCell ⟨b, 9, none⟩ (.slice (some ⟨g6, 0, none⟩) (m.trace.length + 1) c6) = W3 at *
  have hT := hS.blk 0 rfl
  have hR1 := hS.blk 1 rfl
  have t0 := hT.cell 0
  have t1 := hT.cell 1
  have t2 := hT.cell 2
  have z0 := hR1.cell 0
  have z1 := hR1.cell 1
  have z2 := hR1.cell 2
  have r0 := hR1.froz 0
  have r1 := hR1.froz 1
  have r2 := hR1.froz 2
  simp only [List.getElem?_cons_zero, List.getElem?_cons_succ] at t0 t1 t2 z0 z1 z2
  have tl2 := hT.lt
  have rl2 := hR1.lt
  have HS := Lib.hid hS
  clear hS hT hR1
  go_wp2_with fail
  have h4 := ((HS.out.set 1 rfl 0 (.int .u64 (m.at a).1)).set 1 rfl 1 (.int .u64 (m.at a).2)).set 1 rfl 2 (.bool true)
  have k0 := (h4.blk 1 rfl).cell 0
  have k1 := (h4.blk 1 rfl).cell 1
  have k2 := (h4.blk 1 rfl).cell 2
  simp only [List.set_cons_zero, List.set_cons_succ, List.getElem?_cons_succ, List.getElem?_cons_zero] at k0 k1 k2
  refine bodyPost_ret (v := .tuple #[.agg #[.int .u64 (m.at a).1, .int .u64 (m.at a).2, .bool true], .int .i64 0]) (by simp [results, Try.results71, go_sem, k0, k1, k2]) rfl ⟨by simp [outOf], ?_⟩
  have h5 := h4.tail.tail.tail
  have hgd := good_step HG.out who ⟨1, a, ov, os, nv, ns⟩
  rw [(step_ok (m := m) (who := who) HE.out rfl).1] at hgd
  rw [HST.out] at hgd ⊢
  refine shut_mem (vc := .slice (some ⟨g, 0, none⟩) m.cells.length n) (vt := .slice (some ⟨g6, 0, none⟩) (m.trace.length + 1) c6) ?_ hgd
  have hcl : m.cells.set a (becomes (m.at a) ⟨1, a, ov, os, nv, ns⟩) = m.cells.set a (nv, ns) := by simp [becomes]
  have hou : outOf (m.at a) ⟨1, a, ov, os, nv, ns⟩ = ⟨(m.at a).1, (m.at a).2, true⟩ := by simp [outOf]
  rw [hcl, hou]
  exact h5

set_option maxHeartbeats 4000000 in
theorem do_swap_a {w0 w : World} {R : List Thing} {b : Nat} {m : M} (h : Sep w0 w (memT b m :: R)) (ht : m.trace.length ≤ 100000) (who : Nat) (op : Op6) (he : err m.cells.length who op = 0) (hk : op.k = 2) (h1 : (m.at op.a.toNat).1 ≠ op.ov) :
    Calls Try.prog 71 #[.pointer (some ⟨b, 0, none⟩), .int .i64 who, opVm op] w fun e w' => e = .returned (.tuple #[outVm (m.told who op), .int .i64 0]) ∧ Sep w0 w' (memT b (m.step who op) :: R) := by
  obtain ⟨w0', w8, k0, k3, a0, an⟩ := err_zero he
  obtain ⟨k, a, ov, os, nv, ns⟩ := op
  dsimp only at hk k0 k3 a0 an
  obtain ⟨a, rfl⟩ : ∃ n : Nat, a = n := ⟨a.toNat, by omega⟩
  obtain ⟨e1, e2⟩ := step_ok (m := m) (who := who) he rfl
  rw [e1, e2]
  clear e1 e2
  have hal : a < m.cells.length := by omega
  obtain ⟨hG, vc, vt, h⟩ := open_mem h
  have hM := sep_raw h 0 rfl
  obtain ⟨g, n, rfl, hgl, hgc⟩ : ∃ g n, vc = .slice (some ⟨g, 0, none⟩) m.cells.length n ∧ g < w.heap.size ∧ m.cells.length ≤ n := by
    rcases ownsRow_form hM.rc with ⟨_, e⟩ | ⟨g, n, e, h1, _, h2, _⟩
    · omega
    · exact ⟨g, n, e, h1, h2⟩
  have HG := Lib.hid hG; have H := Lib.hid h; have HE := Lib.hid he
  have hai : (a : Int) < (m.cells.length : Int) := an
  clear h hG hM he
  unfold opVm outVm
  dsimp only
  subst hk
  go_enter Try.func71, Try.ntmps71
  go_wp2_with fail
  have h0 := (H.out.new 43 [.int .i64 2, .int .i64 a, .int .u64 ov, .int .u64 os, .int .u64 nv, .int .u64 ns]).new 55 [.int .u64 0, .int .u64 0, .bool false]
  refine (check_any _ b _ vt m who ⟨2, a, ov, os, nv, ns⟩ (sep_raw h0 2 rfl)).mono ?_
  rintro e w1 ⟨rfl, hf⟩
  rw [HE.out]
  have hS := h0.fr0 hf
  have hO := hS.blk 1 rfl
  have o0 := hO.cell 0
  have o1 := hO.cell 1
  have o2 := hO.cell 2
  have o3 := hO.cell 3
  have o4 := hO.cell 4
  have o5 := hO.cell 5
  have hM := sep_raw hS 2 rfl
  have c0 := hM.c0
  have gf0 := hM.frozC (a * 2)
  have gf1 := hM.frozC (a * 2 + 1)
  have hl4 := hM.ltC
  obtain ⟨d0, d1⟩ := hM.cell hal
  have hl1 := hM.blk.lt
  have hl2 := hO.lt
  have hl3 := (hS.blk 0 rfl).lt
  simp only [List.getElem?_cons_zero, List.getElem?_cons_succ, World.size_alloc] at o0 o1 o2 o3 o4 o5 hl2 hl3
  have HS := Lib.hid hS
  clear hS hO hM hf h0
  go_wp2_with fail
  refine wp_region_fr [(1, [0, 1, 2, 3, 4, 5, 6, 7])] [] (by kernel_rfl) (by kernel_rfl) ?_
  simp only [theOps, nthOp, List.map_cons, List.map_nil, Array.getD_eq_getD_getElem?, List.getElem?_toArray, List.getElem?_cons_succ, List.getElem?_cons_zero, Option.getD_some]
  repeat ((first | refine wpSegs_soft ?_ | refine wpSegs_pure ?_ | refine wpSegs_here ?_); (repeat (first | go_big_quiet_step (fail) | quiet_step (fail))); refine wpQuiet_nil ?_)
  refine wpSegs_done ?_
  go_wp2_with fail
  have hv1 : ((m.at a).1 == ov) = false := by simpa using h1
  have hno : ¬ m.at a = (ov, os) := fun e => h1 (by have := congrArg Prod.fst e; simpa using this)
  have HNO := Lib.hid hno
  clear h1 hno
  refine wp_region_fr [(1, [0, 1, 2, 3, 4, 5, 6]), (3, [7])] [] (by kernel_rfl) (by kernel_rfl) ?_
  simp only [theOps, nthOp, List.map_cons, List.map_nil, Array.getD_eq_getD_getElem?, List.getElem?_toArray, List.getElem?_cons_succ, List.getElem?_cons_zero, Option.getD_some]
  repeat ((first | refine wpSegs_soft ?_ | refine wpSegs_pure ?_ | refine wpSegs_here ?_); (repeat (first | go_big_quiet_step (fail) | quiet_step (fail))); refine wpQuiet_nil ?_)
  refine wpSegs_hard ?_
  go_wp2_with fail
  refine wpSegs_done ?_
  go_wp2_with fail
  have hS := (HS.out.new 55 [.int .u64 (m.at a).1, .int .u64 (m.at a).2, .bool false]).drew.drew
  generalize (w1.alloc (.cells #[.int .u64 (m.at a).1, .int .u64 (m.at a).2, .bool false] 55)).drew.drew = W at *
  clear HS o0 o1 o2 o3 o4 o5 c0 d0 d1 hl1 hl2 hl3 gf0 gf1 hl4
  obtain ⟨i0, hi0, hz0, hz1, hz2⟩ := info_parts C_infoEvent
  have hw8 : who < 8 := by omega
  have hs0 := HG.out.bound hw8
  have hti : (m.trace.length : Int) ≤ 100000 := by omega
  obtain ⟨tla, tlc, rfl⟩ := ownsRow_any (sep_raw hS 3 rfl).rt
  have hT := hS.blk 0 rfl
  have hR1 := hS.blk 1 rfl
  have hO := hS.blk 2 rfl
  have hM := sep_raw hS 3 rfl
  have t0 := hT.cell 0
  have t1 := hT.cell 1
  have t2 := hT.cell 2
  have o0 := hO.cell 0
  have o1 := hO.cell 1
  have o2 := hO.cell 2
  have o3 := hO.cell 3
  have o4 := hO.cell 4
  have o5 := hO.cell 5
  have r0 := hR1.froz 0
  have r1 := hR1.froz 1
  have r2 := hR1.froz 2
  have m9 := hM.c9
  have ms := hM.cs hw8
  have mf := hM.blk.froz 9
  have mg := hM.blk.froz (1 + who)
  rw [Nat.add_comm who 1] at ms
  simp only [List.getElem?_cons_zero, List.getElem?_cons_succ] at t0 t1 t2 o0 o1 o2 o3 o4 o5
  have tl := hT.lt
  have rl := hR1.lt
  have ol := hO.lt
  have ml := hM.blk.lt
  have mt := hM.nb2
  have HS := Lib.hid hS
  clear hS hT hR1 hO hM
  try simp only [World.size_alloc] at *
  change _ = some (Value.int .i64 (m.cnt who)) at ms
  generalize hst : m.cnt who = st at *
  have HST := Lib.hid hst; clear hst
  generalize hW : w1.heap.size = tb at *
  clear hW
  go_wp2_with fail
  refine wp_region_fr [(1, [0, 1, 2, 3, 4, 5, 6, 7, 8, 9]), (3, [10])] [] (by kernel_rfl) (by kernel_rfl) ?_
  simp only [theOps, nthOp, List.map_cons, List.map_nil, Array.getD_eq_getD_getElem?, List.getElem?_toArray, List.getElem?_cons_succ, List.getElem?_cons_zero, Option.getD_some]
  repeat ((first | refine wpSegs_soft ?_ | refine wpSegs_pure ?_ | refine wpSegs_here ?_); (repeat (first | go_big_quiet_step (fail) | quiet_step (fail))); refine wpQuiet_nil ?_)
  refine wpSegs_hard ?_
  go_wp2_with fail
  refine wpSegs_done ?_
  go_wp2_with fail
  have hS := (sep_setS HS.out 3 rfl hw8 (st + 1)).drew
  rw [Nat.add_comm who 1] at hS
  generalize (W.setCell ⟨b, 1 + who, none⟩ (.int .i64 (st + 1))).drew = W2 at *
  clear HS t0 t1 t2 o0 o1 o2 o3 o4 o5 r0 r1 r2 m9 ms mf mg tl rl ol ml mt
  have hT := hS.blk 0 rfl
  have hR1 := hS.blk 1 rfl
  have hO := hS.blk 2 rfl
  have hM := sep_raw hS 3 rfl
  have t0 := hT.cell 0
  have t1 := hT.cell 1
  have t2 := hT.cell 2
  have o0 := hO.cell 0
  have o1 := hO.cell 1
  have o2 := hO.cell 2
  have o3 := hO.cell 3
  have o4 := hO.cell 4
  have o5 := hO.cell 5
  have r0 := hR1.froz 0
  have r1 := hR1.froz 1
  have r2 := hR1.froz 2
  have m9 := hM.c9
  have ms := hM.cs hw8
  have mf := hM.blk.froz 9
  have mg := hM.blk.froz (1 + who)
  rw [Nat.add_comm who 1] at ms
  simp only [List.getElem?_cons_zero, List.getElem?_cons_succ] at t0 t1 t2 o0 o1 o2 o3 o4 o5
  have tl := hT.lt
  have rl := hR1.lt
  have ol := hO.lt
  have ml := hM.blk.lt
  have mt := hM.nb2
  have HS := Lib.hid hS
  clear hS hT hR1 hO hM
  try simp only [World.size_alloc] at *
  refine wp_region_fr [(1, [1, 2, 3, 4, 5, 6, 7, 8]), (0, [0]), (2, [9]), (3, [10]), (0, [11, 12]), (3, [13])] [] (by kernel_rfl) (by kernel_rfl) ?_
  simp only [theOps, nthOp, List.map_cons, List.map_nil, Array.getD_eq_getD_getElem?, List.getElem?_toArray, List.getElem?_cons_succ, List.getElem?_cons_zero, Option.getD_some]
  repeat ((first | refine wpSegs_soft ?_ | refine wpSegs_pure ?_ | refine wpSegs_here ?_); (repeat (first | go_big_quiet_step (fail) | quiet_step (fail))); refine wpQuiet_nil ?_)
  refine wpSegs_keep ?_
  go_wp2_with fail
  refine ⟨⟨⟨_, (by exact Fr.from_drew ((Fr.refl _ _).alloc _).drew)⟩, rfl⟩, ?_⟩
  have h2 := (HS.out.new 134 (enEv ⟨who, ⟨2, a, ov, os, nv, ns⟩, ⟨(m.at a).1, (m.at a).2, false⟩⟩)).drew
  have ho := (sep_raw h2 4 rfl).rt
  have hbk := h2.blk 0 rfl
  have HS2 := Lib.hid h2
  clear h2
  refine wpSegs_hard ?_
  refine wpList_push_blk _ rfl _ _ 131 rfl 0 134 i0 _ 10 80 Try.underlying131 hi0 hz0 hz1 hz2 rfl (by decide) (.slice tla m.trace.length tlc) m.trace.length (flat enEv m.trace) rfl ho (enEv ⟨who, ⟨2, a, ov, os, nv, ns⟩, ⟨(m.at a).1, (m.at a).2, false⟩⟩) _ _ rfl hbk rfl (enEv_one _) (by unfold maxLen; omega) (by omega) (Nat.zero_le _) ?_
  intro g6 c6 w6 hown6 hg6 hgg6 hc1 hc2
  simp only [Act.put, List.setIfInBounds_toArray, List.set_cons_zero, List.set_cons_succ]
  have h3 := sep_pushT HS2.out 4 rfl hown6 rfl hg6 (fun q e => by
    rcases hgg6 with h1 | h1
    · exact .inl (h1.trans e)
    · right; simp only [Value.ownBlock, Option.some.injEq] at e; rw [← e, h1]; exact Nat.le_refl _)
  have mlz := hg6.size
  simp only [World.size_drew, World.size_alloc] at mlz
  have mf6 : w6.frozen? ⟨b, 9, none⟩ = false := by
    have f6 := (sep_raw HS2.out 4 rfl).blk.froz 9
    have f7 := (Fr.refl (Value.slice tla m.trace.length tlc).ownBlock.toList _).grown hg6 (fun k e => .inl (by simp [e]))
    exact f7.froz f6 (sep_raw HS2.out 4 rfl).blk.lt (fun hm => mt b (by simpa using hm) rfl)
  have m96 : w6.cell? ⟨b, 9, none⟩ = some (.slice tla m.trace.length tlc) := by
    have f7 := (Fr.refl (Value.slice tla m.trace.length tlc).ownBlock.toList _).grown hg6 (fun k e => .inl (by simp [e]))
    exact f7.cell (sep_raw HS2.out 4 rfl).c9 (fun hm => mt b (by simpa using hm) rfl)
  have HS3 := Lib.hid h3
  clear h3 ho hbk HS2 HS t0 t1 t2 o0 o1 o2 o3 o4 o5 r0 r1 r2 m9 ms mf mg mt
  repeat ((first | refine wpSegs_soft ?_ | refine wpSegs_pure ?_ | refine wpSegs_here ?_); (repeat (first | go_big_quiet_step (fail) | quiet_step (fail))); refine wpQuiet_nil ?_)
  refine wpSegs_hard ?_
  go_wp2_with fail
  refine wpSegs_done ?_
  have hS := HS3.out.tail
  generalize w6.setCell ⟨b, 9, none⟩ (.slice (some ⟨g6, 0, none⟩) (m.trace.length + 1) c6) = W3 at *
  have hT := hS.blk 0 rfl
  have hR1 := hS.blk 1 rfl
  have t0 := hT.cell 0
  have t1 := hT.cell 1
  have t2 := hT.cell 2
  have z0 := hR1.cell 0
  have z1 := hR1.cell 1
  have z2 := hR1.cell 2
  have r0 := hR1.froz 0
  have r1 := hR1.froz 1
  have r2 := hR1.froz 2
  simp only [List.getElem?_cons_zero, List.getElem?_cons_succ] at t0 t1 t2 z0 z1 z2
  have tl2 := hT.lt
  have rl2 := hR1.lt
  have HS := Lib.hid hS
  clear hS hT hR1
  go_wp2_with fail
  have h4 := ((HS.out.set 1 rfl 0 (.int .u64 (m.at a).1)).set 1 rfl 1 (.int .u64 (m.at a).2)).set 1 rfl 2 (.bool false)
  have k0 := (h4.blk 1 rfl).cell 0
  have k1 := (h4.blk 1 rfl).cell 1
  have k2 := (h4.blk 1 rfl).cell 2
  simp only [List.set_cons_zero, List.set_cons_succ, List.getElem?_cons_succ, List.getElem?_cons_zero] at k0 k1 k2
  refine bodyPost_ret (v := .tuple #[.agg #[.int .u64 (m.at a).1, .int .u64 (m.at a).2, .bool false], .int .i64 0]) (by simp [results, Try.results71, go_sem, k0, k1, k2]) rfl ⟨by simp [outOf, HNO.out], ?_⟩
  have h5 := h4.tail.tail.tail
  have hgd := good_step HG.out who ⟨2, a, ov, os, nv, ns⟩
  rw [(step_ok (m := m) (who := who) HE.out rfl).1] at hgd
  rw [HST.out] at hgd ⊢
  refine shut_mem (vc := .slice (some ⟨g, 0, none⟩) m.cells.length n) (vt := .slice (some ⟨g6, 0, none⟩) (m.trace.length + 1) c6) ?_ hgd
  have hcl : m.cells.set a (becomes (m.at a) ⟨2, a, ov, os, nv, ns⟩) = m.cells := by simp [becomes, HNO.out, set_at hal]
  have hou : outOf (m.at a) ⟨2, a, ov, os, nv, ns⟩ = ⟨(m.at a).1, (m.at a).2, false⟩ := by simp [outOf, HNO.out]
  rw [hcl, hou]
  exact h5
set_option maxHeartbeats 4000000 in
theorem do_swap_b {w0 w : World} {R : List Thing} {b : Nat} {m : M} (h : Sep w0 w (memT b m :: R)) (ht : m.trace.length ≤ 100000) (who : Nat) (op : Op6) (he : err m.cells.length who op = 0) (hk : op.k = 2) (h1 : (m.at op.a.toNat).1 = op.ov) (h2 : (m.at op.a.toNat).2 ≠ op.os) :
    Calls Try.prog 71 #[.pointer (some ⟨b, 0, none⟩), .int .i64 who, opVm op] w fun e w' => e = .returned (.tuple #[outVm (m.told who op), .int .i64 0]) ∧ Sep w0 w' (memT b (m.step who op) :: R) := by
  obtain ⟨w0', w8, k0, k3, a0, an⟩ := err_zero he
  obtain ⟨k, a, ov, os, nv, ns⟩ := op
  dsimp only at hk k0 k3 a0 an
  obtain ⟨a, rfl⟩ : ∃ n : Nat, a = n := ⟨a.toNat, by omega⟩
  obtain ⟨e1, e2⟩ := step_ok (m := m) (who := who) he rfl
  rw [e1, e2]
  clear e1 e2
  have hal : a < m.cells.length := by omega
  obtain ⟨hG, vc, vt, h⟩ := open_mem h
  have hM := sep_raw h 0 rfl
  obtain ⟨g, n, rfl, hgl, hgc⟩ : ∃ g n, vc = .slice (some ⟨g, 0, none⟩) m.cells.length n ∧ g < w.heap.size ∧ m.cells.length ≤ n := by
    rcases ownsRow_form hM.rc with ⟨_, e⟩ | ⟨g, n, e, h1, _, h2, _⟩
    · omega
    · exact ⟨g, n, e, h1, h2⟩
  have HG := Lib.hid hG; have H := Lib.hid h; have HE := Lib.hid he
  have hai : (a : Int) < (m.cells.length : Int) := an
  clear h hG hM he
  unfold opVm outVm
  dsimp only
  subst hk
  go_enter Try.func71, Try.ntmps71
  go_wp2_with fail
  have h0 := (H.out.new 43 [.int .i64 2, .int .i64 a, .int .u64 ov, .int .u64 os, .int .u64 nv, .int .u64 ns]).new 55 [.int .u64 0, .int .u64 0, .bool false]
  refine (check_any _ b _ vt m who ⟨2, a, ov, os, nv, ns⟩ (sep_raw h0 2 rfl)).mono ?_
  rintro e w1 ⟨rfl, hf⟩
  rw [HE.out]
  have hS := h0.fr0 hf
  have hO := hS.blk 1 rfl
  have o0 := hO.cell 0
  have o1 := hO.cell 1
  have o2 := hO.cell 2
  have o3 := hO.cell 3
  have o4 := hO.cell 4
  have o5 := hO.cell 5
  have hM := sep_raw hS 2 rfl
  have c0 := hM.c0
  have gf0 := hM.frozC (a * 2)
  have gf1 := hM.frozC (a * 2 + 1)
  have hl4 := hM.ltC
  obtain ⟨d0, d1⟩ := hM.cell hal
  have hl1 := hM.blk.lt
  have hl2 := hO.lt
  have hl3 := (hS.blk 0 rfl).lt
  simp only [List.getElem?_cons_zero, List.getElem?_cons_succ, World.size_alloc] at o0 o1 o2 o3 o4 o5 hl2 hl3
  have HS := Lib.hid hS
  clear hS hO hM hf h0
  go_wp2_with fail
  refine wp_region_fr [(1, [0, 1, 2, 3, 4, 5, 6, 7])] [] (by kernel_rfl) (by kernel_rfl) ?_
  simp only [theOps, nthOp, List.map_cons, List.map_nil, Array.getD_eq_getD_getElem?, List.getElem?_toArray, List.getElem?_cons_succ, List.getElem?_cons_zero, Option.getD_some]
  repeat ((first | refine wpSegs_soft ?_ | refine wpSegs_pure ?_ | refine wpSegs_here ?_); (repeat (first | go_big_quiet_step (fail) | quiet_step (fail))); refine wpQuiet_nil ?_)
  refine wpSegs_done ?_
  go_wp2_with fail
  have hv1 : ((m.at a).1 == ov) = true := by simpa using h1
  have hv2 : ((m.at a).2 == os) = false := by simpa using h2
  have hno : ¬ m.at a = (ov, os) := fun e => h2 (by have := congrArg Prod.snd e; simpa using this)
  have HNO := Lib.hid hno
  clear h1 h2 hno
  refine wp_region_fr [(1, [0, 1, 2, 3, 4, 5, 6]), (3, [7])] [] (by kernel_rfl) (by kernel_rfl) ?_
  simp only [theOps, nthOp, List.map_cons, List.map_nil, Array.getD_eq_getD_getElem?, List.getElem?_toArray, List.getElem?_cons_succ, List.getElem?_cons_zero, Option.getD_some]
  repeat ((first | refine wpSegs_soft ?_ | refine wpSegs_pure ?_ | refine wpSegs_here ?_); (repeat (first | go_big_quiet_step (fail) | quiet_step (fail))); refine wpQuiet_nil ?_)
  refine wpSegs_hard ?_
  go_wp2_with fail
  refine wpSegs_done ?_
  go_wp2_with fail
  have hS := (HS.out.new 55 [.int .u64 (m.at a).1, .int .u64 (m.at a).2, .bool false]).drew.drew
  generalize (w1.alloc (.cells #[.int .u64 (m.at a).1, .int .u64 (m.at a).2, .bool false] 55)).drew.drew = W at *
  clear HS o0 o1 o2 o3 o4 o5 c0 d0 d1 hl1 hl2 hl3 gf0 gf1 hl4
  obtain ⟨i0, hi0, hz0, hz1, hz2⟩ := info_parts C_infoEvent
  have hw8 : who < 8 := by omega
  have hs0 := HG.out.bound hw8
  have hti : (m.trace.length : Int) ≤ 100000 := by omega
  obtain ⟨tla, tlc, rfl⟩ := ownsRow_any (sep_raw hS 3 rfl).rt
  have hT := hS.blk 0 rfl
  have hR1 := hS.blk 1 rfl
  have hO := hS.blk 2 rfl
  have hM := sep_raw hS 3 rfl
  have t0 := hT.cell 0
  have t1 := hT.cell 1
  have t2 := hT.cell 2
  have o0 := hO.cell 0
  have o1 := hO.cell 1
  have o2 := hO.cell 2
  have o3 := hO.cell 3
  have o4 := hO.cell 4
  have o5 := hO.cell 5
  have r0 := hR1.froz 0
  have r1 := hR1.froz 1
  have r2 := hR1.froz 2
  have m9 := hM.c9
  have ms := hM.cs hw8
  have mf := hM.blk.froz 9
  have mg := hM.blk.froz (1 + who)
  rw [Nat.add_comm who 1] at ms
  simp only [List.getElem?_cons_zero, List.getElem?_cons_succ] at t0 t1 t2 o0 o1 o2 o3 o4 o5
  have tl := hT.lt
  have rl := hR1.lt
  have ol := hO.lt
  have ml := hM.blk.lt
  have mt := hM.nb2
  have HS := Lib.hid hS
  clear hS hT hR1 hO hM
  try simp only [World.size_alloc] at *
  change _ = some (Value.int .i64 (m.cnt who)) at ms
  generalize hst : m.cnt who = st at *
  have HST := Lib.hid hst; clear hst
  generalize hW : w1.heap.size = tb at *
  clear hW
  go_wp2_with fail
  refine wp_region_fr [(1, [0, 1, 2, 3, 4, 5, 6, 7, 8, 9]), (3, [10])] [] (by kernel_rfl) (by kernel_rfl) ?_
  simp only [theOps, nthOp, List.map_cons, List.map_nil, Array.getD_eq_getD_getElem?, List.getElem?_toArray, List.getElem?_cons_succ, List.getElem?_cons_zero, Option.getD_some]
  repeat ((first | refine wpSegs_soft ?_ | refine wpSegs_pure ?_ | refine wpSegs_here ?_); (repeat (first | go_big_quiet_step (fail) | quiet_step (fail))); refine wpQuiet_nil ?_)
  refine wpSegs_hard ?_
  go_wp2_with fail
  refine wpSegs_done ?_
  go_wp2_with fail
  have hS := (sep_setS HS.out 3 rfl hw8 (st + 1)).drew
  rw [Nat.add_comm who 1] at hS
  generalize (W.setCell ⟨b, 1 + who, none⟩ (.int .i64 (st + 1))).drew = W2 at *
  clear HS t0 t1 t2 o0 o1 o2 o3 o4 o5 r0 r1 r2 m9 ms mf mg tl rl ol ml mt
  have hT := hS.blk 0 rfl
  have hR1 := hS.blk 1 rfl
  have hO := hS.blk 2 rfl
  have hM := sep_raw hS 3 rfl
  have t0 := hT.cell 0
  have t1 := hT.cell 1
  have t2 := hT.cell 2
  have o0 := hO.cell 0
  have o1 := hO.cell 1
  have o2 := hO.cell 2
  have o3 := hO.cell 3
  have o4 := hO.cell 4
  have o5 := hO.cell 5
  have r0 := hR1.froz 0
  have r1 := hR1.froz 1
  have r2 := hR1.froz 2
  have m9 := hM.c9
  have ms := hM.cs hw8
  have mf := hM.blk.froz 9
  have mg := hM.blk.froz (1 + who)
  rw [Nat.add_comm who 1] at ms
  simp only [List.getElem?_cons_zero, List.getElem?_cons_succ] at t0 t1 t2 o0 o1 o2 o3 o4 o5
  have tl := hT.lt
  have rl := hR1.lt
  have ol := hO.lt
  have ml := hM.blk.lt
  have mt := hM.nb2
  have HS := Lib.hid hS
  clear hS hT hR1 hO hM
  try simp only [World.size_alloc] at *
  refine wp_region_fr [(1, [1, 2, 3, 4, 5, 6, 7, 8]), (0, [0]), (2, [9]), (3, [10]), (0, [11, 12]), (3, [13])] [] (by kernel_rfl) (by kernel_rfl) ?_
  simp only [theOps, nthOp, List.map_cons, List.map_nil, Array.getD_eq_getD_getElem?, List.getElem?_toArray, List.getElem?_cons_succ, List.getElem?_cons_zero, Option.getD_some]
  repeat ((first | refine wpSegs_soft ?_ | refine wpSegs_pure ?_ | refine wpSegs_here ?_); (repeat (first | go_big_quiet_step (fail) | quiet_step (fail))); refine wpQuiet_nil ?_)
  refine wpSegs_keep ?_
  go_wp2_with fail
  refine ⟨⟨⟨_, (by exact Fr.from_drew ((Fr.refl _ _).alloc _).drew)⟩, rfl⟩, ?_⟩
  have h2 := (HS.out.new 134 (enEv ⟨who, ⟨2, a, ov, os, nv, ns⟩, ⟨(m.at a).1, (m.at a).2, false⟩⟩)).drew
  have ho := (sep_raw h2 4 rfl).rt
  have hbk := h2.blk 0 rfl
  have HS2 := Lib.hid h2
  clear h2
  refine wpSegs_hard ?_
  refine wpList_push_blk _ rfl _ _ 131 rfl 0 134 i0 _ 10 80 Try.underlying131 hi0 hz0 hz1 hz2 rfl (by decide) (.slice tla m.trace.length tlc) m.trace.length (flat enEv m.trace) rfl ho (enEv ⟨who, ⟨2, a, ov, os, nv, ns⟩, ⟨(m.at a).1, (m.at a).2, false⟩⟩) _ _ rfl hbk rfl (enEv_one _) (by unfold maxLen; omega) (by omega) (Nat.zero_le _) ?_
  intro g6 c6 w6 hown6 hg6 hgg6 hc1 hc2
  simp only [Act.put, List.setIfInBounds_toArray, List.set_cons_zero, List.set_cons_succ]
  have h3 := sep_pushT HS2.out 4 rfl hown6 rfl hg6 (fun q e => by
    rcases hgg6 with h1 | h1
    · exact .inl (h1.trans e)
    · right; simp only [Value.ownBlock, Option.some.injEq] at e; rw [← e, h1]; exact Nat.le_refl _)
  have mlz := hg6.size
  simp only [World.size_drew, World.size_alloc] at mlz
  have mf6 : w6.frozen? ⟨b, 9, none⟩ = false := by
    have f6 := (sep_raw HS2.out 4 rfl).blk.froz 9
    have f7 := (Fr.refl (Value.slice tla m.trace.length tlc).ownBlock.toList _).grown hg6 (fun k e => .inl (by simp [e]))
    exact f7.froz f6 (sep_raw HS2.out 4 rfl).blk.lt (fun hm => mt b (by simpa using hm) rfl)
  have m96 : w6.cell? ⟨b, 9, none⟩ = some (.slice tla m.trace.length tlc) := by
    have f7 := (Fr.refl (Value.slice tla m.trace.length tlc).ownBlock.toList _).grown hg6 (fun k e => .inl (by simp [e]))
    exact f7.cell (sep_raw HS2.out 4 rfl).c9 (fun hm => mt b (by simpa using hm) rfl)
  have HS3 := Lib.hid h3
  clear h3 ho hbk HS2 HS t0 t1 t2 o0 o1 o2 o3 o4 o5 r0 r1 r2 m9 ms mf mg mt
  repeat ((first | refine wpSegs_soft ?_ | refine wpSegs_pure ?_ | refine wpSegs_here ?_); (repeat (first | go_big_quiet_step (fail) | quiet_step (fail))); refine wpQuiet_nil ?_)
  refine wpSegs_hard ?_
  go_wp2_with fail
  refine wpSegs_done ?_
  have hS := HS3.out.tail
  generalize w6.setCell ⟨b, 9, none⟩ (.slice (some ⟨g6, 0, none⟩) (m.trace.length + 1) c6) = W3 at *
  have hT := hS.blk 0 rfl
  have hR1 := hS.blk 1 rfl
  have t0 := hT.cell 0
  have t1 := hT.cell 1
  have t2 := hT.cell 2
  have z0 := hR1.cell 0
  have z1 := hR1.cell 1
  have z2 := hR1.cell 2
  have r0 := hR1.froz 0
  have r1 := hR1.froz 1
  have r2 := hR1.froz 2
  simp only [List.getElem?_cons_zero, List.getElem?_cons_succ] at t0 t1 t2 z0 z1 z2
  have tl2 := hT.lt
  have rl2 := hR1.lt
  have HS := Lib.hid hS
  clear hS hT hR1
  go_wp2_with fail
  have h4 := ((HS.out.set 1 rfl 0 (.int .u64 (m.at a).1)).set 1 rfl 1 (.int .u64 (m.at a).2)).set 1 rfl 2 (.bool false)
  have k0 := (h4.blk 1 rfl).cell 0
  have k1 := (h4.blk 1 rfl).cell 1
  have k2 := (h4.blk 1 rfl).cell 2
  simp only [List.set_cons_zero, List.set_cons_succ, List.getElem?_cons_succ, List.getElem?_cons_zero] at k0 k1 k2
  refine bodyPost_ret (v := .tuple #[.agg #[.int .u64 (m.at a).1, .int .u64 (m.at a).2, .bool false], .int .i64 0]) (by simp [results, Try.results71, go_sem, k0, k1, k2]) rfl ⟨by simp [outOf, HNO.out], ?_⟩
  have h5 := h4.tail.tail.tail
  have hgd := good_step HG.out who ⟨2, a, ov, os, nv, ns⟩
  rw [(step_ok (m := m) (who := who) HE.out rfl).1] at hgd
  rw [HST.out] at hgd ⊢
  refine shut_mem (vc := .slice (some ⟨g, 0, none⟩) m.cells.length n) (vt := .slice (some ⟨g6, 0, none⟩) (m.trace.length + 1) c6) ?_ hgd
  have hcl : m.cells.set a (becomes (m.at a) ⟨2, a, ov, os, nv, ns⟩) = m.cells := by simp [becomes, HNO.out, set_at hal]
  have hou : outOf (m.at a) ⟨2, a, ov, os, nv, ns⟩ = ⟨(m.at a).1, (m.at a).2, false⟩ := by simp [outOf, HNO.out]
  rw [hcl, hou]
  exact h5
set_option maxHeartbeats 4000000 in
theorem do_swap_c {w0 w : World} {R : List Thing} {b : Nat} {m : M} (h : Sep w0 w (memT b m :: R)) (ht : m.trace.length ≤ 100000) (who : Nat) (op : Op6) (he : err m.cells.length who op = 0) (hk : op.k = 2) (h1 : (m.at op.a.toNat).1 = op.ov) (h2 : (m.at op.a.toNat).2 = op.os) :
    Calls Try.prog 71 #[.pointer (some ⟨b, 0, none⟩), .int .i64 who, opVm op] w fun e w' => e = .returned (.tuple #[outVm (m.told who op), .int .i64 0]) ∧ Sep w0 w' (memT b (m.step who op) :: R) := by
  obtain ⟨w0', w8, k0, k3, a0, an⟩ := err_zero he
  obtain ⟨k, a, ov, os, nv, ns⟩ := op
  dsimp only at hk k0 k3 a0 an
  obtain ⟨a, rfl⟩ : ∃ n : Nat, a = n := ⟨a.toNat, by omega⟩
  obtain ⟨e1, e2⟩ := step_ok (m := m) (who := who) he rfl
  rw [e1, e2]
  clear e1 e2
  have hal : a < m.cells.length := by omega
  obtain ⟨hG, vc, vt, h⟩ := open_mem h
  have hM := sep_raw h 0 rfl
  obtain ⟨g, n, rfl, hgl, hgc⟩ : ∃ g n, vc = .slice (some ⟨g, 0, none⟩) m.cells.length n ∧ g < w.heap.size ∧ m.cells.length ≤ n := by
    rcases ownsRow_form hM.rc with ⟨_, e⟩ | ⟨g, n, e, h1, _, h2, _⟩
    · omega
    · exact ⟨g, n, e, h1, h2⟩
  have HG := Lib.hid hG; have H := Lib.hid h; have HE := Lib.hid he
  have hai : (a : Int) < (m.cells.length : Int) := an
  clear h hG hM he
  unfold opVm outVm
  dsimp only
  subst hk
  go_enter Try.func71, Try.ntmps71
  go_wp2_with fail
  have h0 := (H.out.new 43 [.int .i64 2, .int .i64 a, .int .u64 ov, .int .u64 os, .int .u64 nv, .int .u64 ns]).new 55 [.int .u64 0, .int .u64 0, .bool false]
  refine (check_any _ b _ vt m who ⟨2, a, ov, os, nv, ns⟩ (sep_raw h0 2 rfl)).mono ?_
  rintro e w1 ⟨rfl, hf⟩
  rw [HE.out]
  have hS := h0.fr0 hf
  have hO := hS.blk 1 rfl
  have o0 := hO.cell 0
  have o1 := hO.cell 1
  have o2 := hO.cell 2
  have o3 := hO.cell 3
  have o4 := hO.cell 4
  have o5 := hO.cell 5
  have hM := sep_raw hS 2 rfl
  have c0 := hM.c0
  have gf0 := hM.frozC (a * 2)
  have gf1 := hM.frozC (a * 2 + 1)
  have hl4 := hM.ltC
  obtain ⟨d0, d1⟩ := hM.cell hal
  have hl1 := hM.blk.lt
  have hl2 := hO.lt
  have hl3 := (hS.blk 0 rfl).lt
  simp only [List.getElem?_cons_zero, List.getElem?_cons_succ, World.size_alloc] at o0 o1 o2 o3 o4 o5 hl2 hl3
  have HS := Lib.hid hS
  clear hS hO hM hf h0
  go_wp2_with fail
  refine wp_region_fr [(1, [0, 1, 2, 3, 4, 5, 6, 7])] [] (by kernel_rfl) (by kernel_rfl) ?_
  simp only [theOps, nthOp, List.map_cons, List.map_nil, Array.getD_eq_getD_getElem?, List.getElem?_toArray, List.getElem?_cons_succ, List.getElem?_cons_zero, Option.getD_some]
  repeat ((first | refine wpSegs_soft ?_ | refine wpSegs_pure ?_ | refine wpSegs_here ?_); (repeat (first | go_big_quiet_step (fail) | quiet_step (fail))); refine wpQuiet_nil ?_)
  refine wpSegs_done ?_
  go_wp2_with fail
  have hv1 : ((m.at a).1 == ov) = true := by simpa using h1
  have hv2 : ((m.at a).2 == os) = true := by simpa using h2
  have hyes : m.at a = (ov, os) := Prod.ext h1 h2
  have HYES := Lib.hid hyes
  clear h1 h2 hyes
  refine wp_region_fr [(1, [0, 1, 2, 3, 4, 5, 6]), (3, [7])] [] (by kernel_rfl) (by kernel_rfl) ?_
  simp only [theOps, nthOp, List.map_cons, List.map_nil, Array.getD_eq_getD_getElem?, List.getElem?_toArray, List.getElem?_cons_succ, List.getElem?_cons_zero, Option.getD_some]
  repeat ((first | refine wpSegs_soft ?_ | refine wpSegs_pure ?_ | refine wpSegs_here ?_); (repeat (first | go_big_quiet_step (fail) | quiet_step (fail))); refine wpQuiet_nil ?_)
  refine wpSegs_hard ?_
  go_wp2_with fail
  refine wpSegs_done ?_
  go_wp2_with fail
  have hS := ((sep_setC HS.out 2 rfl hal nv ns).new 55 [.int .u64 (m.at a).1, .int .u64 (m.at a).2, .bool true]).drew.drew
  simp only [World.size_setCell] at hS
  generalize (((w1.setCell ⟨g, a * 2, none⟩ (.int .u64 nv)).setCell ⟨g, a * 2 + 1, none⟩ (.int .u64 ns)).alloc (.cells #[.int .u64 (m.at a).1, .int .u64 (m.at a).2, .bool true] 55)).drew.drew = W at *
  clear HS o0 o1 o2 o3 o4 o5 c0 d0 d1 hl1 hl2 hl3 gf0 gf1 hl4
  obtain ⟨i0, hi0, hz0, hz1, hz2⟩ := info_parts C_infoEvent
  have hw8 : who < 8 := by omega
  have hs0 := HG.out.bound hw8
  have hti : (m.trace.length : Int) ≤ 100000 := by omega
  obtain ⟨tla, tlc, rfl⟩ := ownsRow_any (sep_raw hS 3 rfl).rt
  have hT := hS.blk 0 rfl
  have hR1 := hS.blk 1 rfl
  have hO := hS.blk 2 rfl
  have hM := sep_raw hS 3 rfl
  have t0 := hT.cell 0
  have t1 := hT.cell 1
  have t2 := hT.cell 2
  have o0 := hO.cell 0
  have o1 := hO.cell 1
  have o2 := hO.cell 2
  have o3 := hO.cell 3
  have o4 := hO.cell 4
  have o5 := hO.cell 5
  have r0 := hR1.froz 0
  have r1 := hR1.froz 1
  have r2 := hR1.froz 2
  have m9 := hM.c9
  have ms := hM.cs hw8
  have mf := hM.blk.froz 9
  have mg := hM.blk.froz (1 + who)
  rw [Nat.add_comm who 1] at ms
  simp only [List.getElem?_cons_zero, List.getElem?_cons_succ] at t0 t1 t2 o0 o1 o2 o3 o4 o5
  have tl := hT.lt
  have rl := hR1.lt
  have ol := hO.lt
  have ml := hM.blk.lt
  have mt := hM.nb2
  have HS := Lib.hid hS
  clear hS hT hR1 hO hM
  try simp only [World.size_alloc] at *
  change _ = some (Value.int .i64 (m.cnt who)) at ms
  generalize hst : m.cnt who = st at *
  have HST := Lib.hid hst; clear hst
  generalize hW : w1.heap.size = tb at *
  clear hW
  go_wp2_with fail
  refine wp_region_fr [(1, [0, 1, 2, 3, 4, 5, 6, 7, 8, 9]), (3, [10])] [] (by kernel_rfl) (by kernel_rfl) ?_
  simp only [theOps, nthOp, List.map_cons, List.map_nil, Array.getD_eq_getD_getElem?, List.getElem?_toArray, List.getElem?_cons_succ, List.getElem?_cons_zero, Option.getD_some]
  repeat ((first | refine wpSegs_soft ?_ | refine wpSegs_pure ?_ | refine wpSegs_here ?_); (repeat (first | go_big_quiet_step (fail) | quiet_step (fail))); refine wpQuiet_nil ?_)
  refine wpSegs_hard ?_
  go_wp2_with fail
  refine wpSegs_done ?_
  go_wp2_with fail
  have hS := (sep_setS HS.out 3 rfl hw8 (st + 1)).drew
  rw [Nat.add_comm who 1] at hS
  generalize (W.setCell ⟨b, 1 + who, none⟩ (.int .i64 (st + 1))).drew = W2 at *
  clear HS t0 t1 t2 o0 o1 o2 o3 o4 o5 r0 r1 r2 m9 ms mf mg tl rl ol ml mt
  have hT := hS.blk 0 rfl
  have hR1 := hS.blk 1 rfl
  have hO := hS.blk 2 rfl
  have hM := sep_raw hS 3 rfl
  have t0 := hT.cell 0
  have t1 := hT.cell 1
  have t2 := hT.cell 2
  have o0 := hO.cell 0
  have o1 := hO.cell 1
  have o2 := hO.cell 2
  have o3 := hO.cell 3
  have o4 := hO.cell 4
  have o5 := hO.cell 5
  have r0 := hR1.froz 0
  have r1 := hR1.froz 1
  have r2 := hR1.froz 2
  have m9 := hM.c9
  have ms := hM.cs hw8
  have mf := hM.blk.froz 9
  have mg := hM.blk.froz (1 + who)
  rw [Nat.add_comm who 1] at ms
  simp only [List.getElem?_cons_zero, List.getElem?_cons_succ] at t0 t1 t2 o0 o1 o2 o3 o4 o5
  have tl := hT.lt
  have rl := hR1.lt
  have ol := hO.lt
  have ml := hM.blk.lt
  have mt := hM.nb2
  have HS := Lib.hid hS
  clear hS hT hR1 hO hM
  try simp only [World.size_alloc] at *
  refine wp_region_fr [(1, [1, 2, 3, 4, 5, 6, 7, 8]), (0, [0]), (2, [9]), (3, [10]), (0, [11, 12]), (3, [13])] [] (by kernel_rfl) (by kernel_rfl) ?_
  simp only [theOps, nthOp, List.map_cons, List.map_nil, Array.getD_eq_getD_getElem?, List.getElem?_toArray, List.getElem?_cons_succ, List.getElem?_cons_zero, Option.getD_some]
  repeat ((first | refine wpSegs_soft ?_ | refine wpSegs_pure ?_ | refine wpSegs_here ?_); (repeat (first | go_big_quiet_step (fail) | quiet_step (fail))); refine wpQuiet_nil ?_)
  refine wpSegs_keep ?_
  go_wp2_with fail
  refine ⟨⟨⟨_, (by exact Fr.from_drew ((Fr.refl _ _).alloc _).drew)⟩, rfl⟩, ?_⟩
  have h2 := (HS.out.new 134 (enEv ⟨who, ⟨2, a, ov, os, nv, ns⟩, ⟨(m.at a).1, (m.at a).2, true⟩⟩)).drew
  have ho := (sep_raw h2 4 rfl).rt
  have hbk := h2.blk 0 rfl
  have HS2 := Lib.hid h2
  clear h2
  refine wpSegs_hard ?_
  refine wpList_push_blk _ rfl _ _ 131 rfl 0 134 i0 _ 10 80 Try.underlying131 hi0 hz0 hz1 hz2 rfl (by decide) (.slice tla m.trace.length tlc) m.trace.length (flat enEv m.trace) rfl ho (enEv ⟨who, ⟨2, a, ov, os, nv, ns⟩, ⟨(m.at a).1, (m.at a).2, true⟩⟩) _ _ rfl hbk rfl (enEv_one _) (by unfold maxLen; omega) (by omega) (Nat.zero_le _) ?_
  intro g6 c6 w6 hown6 hg6 hgg6 hc1 hc2
  simp only [Act.put, List.setIfInBounds_toArray, List.set_cons_zero, List.set_cons_succ]
  have h3 := sep_pushT HS2.out 4 rfl hown6 rfl hg6 (fun q e => by
    rcases hgg6 with h1 | h1
    · exact .inl (h1.trans e)
    · right; simp only [Value.ownBlock, Option.some.injEq] at e; rw [← e, h1]; exact Nat.le_refl _)
  have mlz := hg6.size
  simp only [World.size_drew, World.size_alloc] at mlz
  have mf6 : w6.frozen? ⟨b, 9, none⟩ = false := by
    have f6 := (sep_raw HS2.out 4 rfl).blk.froz 9
    have f7 := (Fr.refl (Value.slice tla m.trace.length tlc).ownBlock.toList _).grown hg6 (fun k e => .inl (by simp [e]))
    exact f7.froz f6 (sep_raw HS2.out 4 rfl).blk.lt (fun hm => mt b (by simpa using hm) rfl)
  have m96 : w6.cell? ⟨b, 9, none⟩ = some (.slice tla m.trace.length tlc) := by
    have f7 := (Fr.refl (Value.slice tla m.trace.length tlc).ownBlock.toList _).grown hg6 (fun k e => .inl (by simp [e]))
    exact f7.cell (sep_raw HS2.out 4 rfl).c9 (fun hm => mt b (by simpa using hm) rfl)
  have HS3 := Lib.hid h3
  clear h3 ho hbk HS2 HS t0 t1 t2 o0 o1 o2 o3 o4 o5 r0 r1 r2 m9 ms mf mg mt
  repeat ((first | refine wpSegs_soft ?_ | refine wpSegs_pure ?_ | refine wpSegs_here ?_); (repeat (first | go_big_quiet_step (fail) | quiet_step (fail))); refine wpQuiet_nil ?_)
  refine wpSegs_hard ?_
  go_wp2_with fail
  refine wpSegs_done ?_
  have hS := HS3.out.tail
  generalize w6.setCell ⟨b, 9, none⟩ (.slice (some ⟨g6, 0, none⟩) (m.trace.length + 1) c6) = W3 at *
  have hT := hS.blk 0 rfl
  have hR1 := hS.blk 1 rfl
  have t0 := hT.cell 0
  have t1 := hT.cell 1
  have t2 := hT.cell 2
  have z0 := hR1.cell 0
  have z1 := hR1.cell 1
  have z2 := hR1.cell 2
  have r0 := hR1.froz 0
  have r1 := hR1.froz 1
  have r2 := hR1.froz 2
  simp only [List.getElem?_cons_zero, List.getElem?_cons_succ] at t0 t1 t2 z0 z1 z2
  have tl2 := hT.lt
  have rl2 := hR1.lt
  have HS := Lib.hid hS
  clear hS hT hR1
  go_wp2_with fail
  have h4 := ((HS.out.set 1 rfl 0 (.int .u64 (m.at a).1)).set 1 rfl 1 (.int .u64 (m.at a).2)).set 1 rfl 2 (.bool true)
  have k0 := (h4.blk 1 rfl).cell 0
  have k1 := (h4.blk 1 rfl).cell 1
  have k2 := (h4.blk 1 rfl).cell 2
  simp only [List.set_cons_zero, List.set_cons_succ, List.getElem?_cons_succ, List.getElem?_cons_zero] at k0 k1 k2
  refine bodyPost_ret (v := .tuple #[.agg #[.int .u64 (m.at a).1, .int .u64 (m.at a).2, .bool true], .int .i64 0]) (by simp [results, Try.results71, go_sem, k0, k1, k2]) rfl ⟨by simp [outOf, HYES.out], ?_⟩
  have h5 := h4.tail.tail.tail
  have hgd := good_step HG.out who ⟨2, a, ov, os, nv, ns⟩
  rw [(step_ok (m := m) (who := who) HE.out rfl).1] at hgd
  rw [HST.out] at hgd ⊢
  refine shut_mem (vc := .slice (some ⟨g, 0, none⟩) m.cells.length n) (vt := .slice (some ⟨g6, 0, none⟩) (m.trace.length + 1) c6) ?_ hgd
  have hcl : m.cells.set a (becomes (m.at a) ⟨2, a, ov, os, nv, ns⟩) = m.cells.set a (nv, ns) := by simp [becomes, HYES.out]
  have hou : outOf (m.at a) ⟨2, a, ov, os, nv, ns⟩ = ⟨(m.at a).1, (m.at a).2, true⟩ := by simp [outOf, HYES.out]
  rw [hcl, hou]
  exact h5
set_option maxHeartbeats 4000000 in
theorem do_add {w0 w : World} {R : List Thing} {b : Nat} {m : M} (h : Sep w0 w (memT b m :: R)) (ht : m.trace.length ≤ 100000) (who : Nat) (op : Op6) (he : err m.cells.length who op = 0) (hk : op.k = 3) :
    Calls Try.prog 71 #[.pointer (some ⟨b, 0, none⟩), .int .i64 who, opVm op] w fun e w' => e = .returned (.tuple #[outVm (m.told who op), .int .i64 0]) ∧ Sep w0 w' (memT b (m.step who op) :: R) := by
  obtain ⟨w0', w8, k0, k3, a0, an⟩ := err_zero he
  obtain ⟨k, a, ov, os, nv, ns⟩ := op
  dsimp only at hk k0 k3 a0 an
  obtain ⟨a, rfl⟩ : ∃ n : Nat, a = n := ⟨a.toNat, by omega⟩
  obtain ⟨e1, e2⟩ := step_ok (m := m) (who := who) he rfl
  rw [e1, e2]
  clear e1 e2
  have hal : a < m.cells.length := by omega
  obtain ⟨hG, vc, vt, h⟩ := open_mem h
  have hM := sep_raw h 0 rfl
  obtain ⟨g, n, rfl, hgl, hgc⟩ : ∃ g n, vc = .slice (some ⟨g, 0, none⟩) m.cells.length n ∧ g < w.heap.size ∧ m.cells.length ≤ n := by
    rcases ownsRow_form hM.rc with ⟨_, e⟩ | ⟨g, n, e, h1, _, h2, _⟩
    · omega
    · exact ⟨g, n, e, h1, h2⟩
  have HG := Lib.hid hG; have H := Lib.hid h; have HE := Lib.hid he
  have hai : (a : Int) < (m.cells.length : Int) := an
  clear h hG hM he
  unfold opVm outVm
  dsimp only
  subst hk
  go_enter Try.func71, Try.ntmps71
  go_wp2_with fail
  have h0 := (H.out.new 43 [.int .i64 3, .int .i64 a, .int .u64 ov, .int .u64 os, .int .u64 nv, .int .u64 ns]).new 55 [.int .u64 0, .int .u64 0, .bool false]
  refine (check_any _ b _ vt m who ⟨3, a, ov, os, nv, ns⟩ (sep_raw h0 2 rfl)).mono ?_
  rintro e w1 ⟨rfl, hf⟩
  rw [HE.out]
  have hS := h0.fr0 hf
  have hO := hS.blk 1 rfl
  have o0 := hO.cell 0
  have o1 := hO.cell 1
  have o2 := hO.cell 2
  have o3 := hO.cell 3
  have o4 := hO.cell 4
  have o5 := hO.cell 5
  have hM := sep_raw hS 2 rfl
  have c0 := hM.c0
  have gf0 := hM.frozC (a * 2)
  have gf1 := hM.frozC (a * 2 + 1)
  have hl4 := hM.ltC
  obtain ⟨d0, d1⟩ := hM.cell hal
  have hl1 := hM.blk.lt
  have hl2 := hO.lt
  have hl3 := (hS.blk 0 rfl).lt
  simp only [List.getElem?_cons_zero, List.getElem?_cons_succ, World.size_alloc] at o0 o1 o2 o3 o4 o5 hl2 hl3
  have HS := Lib.hid hS
  clear hS hO hM hf h0
  go_wp2_with fail
  refine wp_region_fr [(1, [0, 1, 2, 3, 4, 5, 6, 7])] [] (by kernel_rfl) (by kernel_rfl) ?_
  simp only [theOps, nthOp, List.map_cons, List.map_nil, Array.getD_eq_getD_getElem?, List.getElem?_toArray, List.getElem?_cons_succ, List.getElem?_cons_zero, Option.getD_some]
  repeat ((first | refine wpSegs_soft ?_ | refine wpSegs_pure ?_ | refine wpSegs_here ?_); (repeat (first | go_big_quiet_step (fail) | quiet_step (fail))); refine wpQuiet_nil ?_)
  refine wpSegs_done ?_
  go_wp2_with fail
  refine wp_region_fr [(1, [0, 1, 2, 3, 4, 5, 6, 7, 8, 9]), (3, [10])] [] (by kernel_rfl) (by kernel_rfl) ?_
  simp only [theOps, nthOp, List.map_cons, List.map_nil, Array.getD_eq_getD_getElem?, List.getElem?_toArray, List.getElem?_cons_succ, List.getElem?_cons_zero, Option.getD_some]
  repeat ((first | refine wpSegs_soft ?_ | refine wpSegs_pure ?_ | refine wpSegs_here ?_); (repeat (first | go_big_quiet_step (fail) | quiet_step (fail))); refine wpQuiet_nil ?_)
  refine wpSegs_hard ?_
  go_wp2_with fail
  refine wpSegs_done ?_
  go_wp2_with fail
  have hS := ((sep_setV HS.out 2 rfl hal (IntKind.u64.wrap ((m.at a).1 + nv))).new 55 [.int .u64 (m.at a).1, .int .u64 (m.at a).2, .bool true]).drew.drew
  simp only [World.size_setCell] at hS
  generalize (((w1.setCell ⟨g, a * 2, none⟩ (.int .u64 (IntKind.u64.wrap ((m.at a).1 + nv))))).alloc (.cells #[.int .u64 (m.at a).1, .int .u64 (m.at a).2, .bool true] 55)).drew.drew = W at *
  clear HS o0 o1 o2 o3 o4 o5 c0 d0 d1 hl1 hl2 hl3 gf0 gf1 hl4
  obtain ⟨i0, hi0, hz0, hz1, hz2⟩ := info_parts C_infoEvent
  have hw8 : who < 8 := by omega
  have hs0 := HG.out.bound hw8
  have hti : (m.trace.length : Int) ≤ 100000 := by omega
  obtain ⟨tla, tlc, rfl⟩ := ownsRow_any (sep_raw hS 3 rfl).rt
  have hT := hS.blk 0 rfl
  have hR1 := hS.blk 1 rfl
  have hO := hS.blk 2 rfl
  have hM := sep_raw hS 3 rfl
  have t0 := hT.cell 0
  have t1 := hT.cell 1
  have t2 := hT.cell 2
  have o0 := hO.cell 0
  have o1 := hO.cell 1
  have o2 := hO.cell 2
  have o3 := hO.cell 3
  have o4 := hO.cell 4
  have o5 := hO.cell 5
  have r0 := hR1.froz 0
  have r1 := hR1.froz 1
  have r2 := hR1.froz 2
  have m9 := hM.c9
  have ms := hM.cs hw8
  have mf := hM.blk.froz 9
  have mg := hM.blk.froz (1 + who)
  rw [Nat.add_comm who 1] at ms
  simp only [List.getElem?_cons_zero, List.getElem?_cons_succ] at t0 t1 t2 o0 o1 o2 o3 o4 o5
  have tl := hT.lt
  have rl := hR1.lt
  have ol := hO.lt
  have ml := hM.blk.lt
  have mt := hM.nb2
  have HS := Lib.hid hS
  clear hS hT hR1 hO hM
  try simp only [World.size_alloc] at *
  change _ = some (Value.int .i64 (m.cnt who)) at ms
  generalize hst : m.cnt who = st at *
  have HST := Lib.hid hst; clear hst
  generalize hW : w1.heap.size = tb at *
  clear hW
  go_wp2_with fail
  refine wp_region_fr [(1, [0, 1, 2, 3, 4, 5, 6, 7, 8, 9]), (3, [10])] [] (by kernel_rfl) (by kernel_rfl) ?_
  simp only [theOps, nthOp, List.map_cons, List.map_nil, Array.getD_eq_getD_getElem?, List.getElem?_toArray, List.getElem?_cons_succ, List.getElem?_cons_zero, Option.getD_some]
  repeat ((first | refine wpSegs_soft ?_ | refine wpSegs_pure ?_ | refine wpSegs_here ?_); (repeat (first | go_big_quiet_step (fail) | quiet_step (fail))); refine wpQuiet_nil ?_)
  refine wpSegs_hard ?_
  go_wp2_with fail
  refine wpSegs_done ?_
  go_wp2_with fail
  have hS := (sep_setS HS.out 3 rfl hw8 (st + 1)).drew
  rw [Nat.add_comm who 1] at hS
  generalize (W.setCell ⟨b, 1 + who, none⟩ (.int .i64 (st + 1))).drew = W2 at *
  clear HS t0 t1 t2 o0 o1 o2 o3 o4 o5 r0 r1 r2 m9 ms mf mg tl rl ol ml mt
  have hT := hS.blk 0 rfl
  have hR1 := hS.blk 1 rfl
  have hO := hS.blk 2 rfl
  have hM := sep_raw hS 3 rfl
  have t0 := hT.cell 0
  have t1 := hT.cell 1
  have t2 := hT.cell 2
  have o0 := hO.cell 0
  have o1 := hO.cell 1
  have o2 := hO.cell 2
  have o3 := hO.cell 3
  have o4 := hO.cell 4
  have o5 := hO.cell 5
  have r0 := hR1.froz 0
  have r1 := hR1.froz 1
  have r2 := hR1.froz 2
  have m9 := hM.c9
  have ms := hM.cs hw8
  have mf := hM.blk.froz 9
  have mg := hM.blk.froz (1 + who)
  rw [Nat.add_comm who 1] at ms
  simp only [List.getElem?_cons_zero, List.getElem?_cons_succ] at t0 t1 t2 o0 o1 o2 o3 o4 o5
  have tl := hT.lt
  have rl := hR1.lt
  have ol := hO.lt
  have ml := hM.blk.lt
  have mt := hM.nb2
  have HS := Lib.hid hS
  clear hS hT hR1 hO hM
  try simp only [World.size_alloc] at *
  refine wp_region_fr [(1, [1, 2, 3, 4, 5, 6, 7, 8]), (0, [0]), (2, [9]), (3, [10]), (0, [11, 12]), (3, [13])] [] (by kernel_rfl) (by kernel_rfl) ?_
  simp only [theOps, nthOp, List.map_cons, List.map_nil, Array.getD_eq_getD_getElem?, List.getElem?_toArray, List.getElem?_cons_succ, List.getElem?_cons_zero, Option.getD_some]
  repeat ((first | refine wpSegs_soft ?_ | refine wpSegs_pure ?_ | refine wpSegs_here ?_); (repeat (first | go_big_quiet_step (fail) | quiet_step (fail))); refine wpQuiet_nil ?_)
  refine wpSegs_keep ?_
  go_wp2_with fail
  refine ⟨⟨⟨_, (by exact Fr.from_drew ((Fr.refl _ _).alloc _).drew)⟩, rfl⟩, ?_⟩
  have h2 := (HS.out.new 134 (enEv ⟨who, ⟨3, a, ov, os, nv, ns⟩, ⟨(m.at a).1, (m.at a).2, true⟩⟩)).drew
  have ho := (sep_raw h2 4 rfl).rt
  have hbk := h2.blk 0 rfl
  have HS2 := Lib.hid h2
  clear h2
  refine wpSegs_hard ?_
  refine wpList_push_blk _ rfl _ _ 131 rfl 0 134 i0 _ 10 80 Try.underlying131 hi0 hz0 hz1 hz2 rfl (by decide) (.slice tla m.trace.length tlc) m.trace.length (flat enEv m.trace) rfl ho (enEv ⟨who, ⟨3, a, ov, os, nv, ns⟩, ⟨(m.at a).1, (m.at a).2, true⟩⟩) _ _ rfl hbk rfl (enEv_one _) (by unfold maxLen; omega) (by omega) (Nat.zero_le _) ?_
  intro g6 c6 w6 hown6 hg6 hgg6 hc1 hc2
  simp only [Act.put, List.setIfInBounds_toArray, List.set_cons_zero, List.set_cons_succ]
  have h3 := sep_pushT HS2.out 4 rfl hown6 rfl hg6 (fun q e => by
    rcases hgg6 with h1 | h1
    · exact .inl (h1.trans e)
    · right; simp only [Value.ownBlock, Option.some.injEq] at e; rw [← e, h1]; exact Nat.le_refl _)
  have mlz := hg6.size
  simp only [World.size_drew, World.size_alloc] at mlz
  have mf6 : w6.frozen? ⟨b, 9, none⟩ = false := by
    have f6 := (sep_raw HS2.out 4 rfl).blk.froz 9
    have f7 := (Fr.refl (Value.slice tla m.trace.length tlc).ownBlock.toList _).grown hg6 (fun k e => .inl (by simp [e]))
    exact f7.froz f6 (sep_raw HS2.out 4 rfl).blk.lt (fun hm => mt b (by simpa using hm) rfl)
  have m96 : w6.cell? ⟨b, 9, none⟩ = some (.slice tla m.trace.length tlc) := by
    have f7 := (Fr.refl (Value.slice tla m.trace.length tlc).ownBlock.toList _).grown hg6 (fun k e => .inl (by simp [e]))
    exact f7.cell (sep_raw HS2.out 4 rfl).c9 (fun hm => mt b (by simpa using hm) rfl)
  have HS3 := Lib.hid h3
  clear h3 ho hbk HS2 HS t0 t1 t2 o0 o1 o2 o3 o4 o5 r0 r1 r2 m9 ms mf mg mt
  repeat ((first | refine wpSegs_soft ?_ | refine wpSegs_pure ?_ | refine wpSegs_here ?_); (repeat (first | go_big_quiet_step (fail) | quiet_step (fail))); refine wpQuiet_nil ?_)
  refine wpSegs_hard ?_
  go_wp2_with fail
  refine wpSegs_done ?_
  have hS := HS3.out.tail
  generalize w6.setCell ⟨b, 9, none⟩ (.slice (some ⟨g6, 0, none⟩) (m.trace.length + 1) c6) = W3 at *
  have hT := hS.blk 0 rfl
  have hR1 := hS.blk 1 rfl
  have t0 := hT.cell 0
  have t1 := hT.cell 1
  have t2 := hT.cell 2
  have z0 := hR1.cell 0
  have z1 := hR1.cell 1
  have z2 := hR1.cell 2
  have r0 := hR1.froz 0
  have r1 := hR1.froz 1
  have r2 := hR1.froz 2
  simp only [List.getElem?_cons_zero, List.getElem?_cons_succ] at t0 t1 t2 z0 z1 z2
  have tl2 := hT.lt
  have rl2 := hR1.lt
  have HS := Lib.hid hS
  clear hS hT hR1
  go_wp2_with fail
  have h4 := ((HS.out.set 1 rfl 0 (.int .u64 (m.at a).1)).set 1 rfl 1 (.int .u64 (m.at a).2)).set 1 rfl 2 (.bool true)
  have k0 := (h4.blk 1 rfl).cell 0
  have k1 := (h4.blk 1 rfl).cell 1
  have k2 := (h4.blk 1 rfl).cell 2
  simp only [List.set_cons_zero, List.set_cons_succ, List.getElem?_cons_succ, List.getElem?_cons_zero] at k0 k1 k2
  refine bodyPost_ret (v := .tuple #[.agg #[.int .u64 (m.at a).1, .int .u64 (m.at a).2, .bool true], .int .i64 0]) (by simp [results, Try.results71, go_sem, k0, k1, k2]) rfl ⟨by simp [outOf], ?_⟩
  have h5 := h4.tail.tail.tail
  have hgd := good_step HG.out who ⟨3, a, ov, os, nv, ns⟩
  rw [(step_ok (m := m) (who := who) HE.out rfl).1] at hgd
  rw [HST.out] at hgd ⊢
  refine shut_mem (vc := .slice (some ⟨g, 0, none⟩) m.cells.length n) (vt := .slice (some ⟨g6, 0, none⟩) (m.trace.length + 1) c6) ?_ hgd
  have hcl : m.cells.set a (becomes (m.at a) ⟨3, a, ov, os, nv, ns⟩) = m.cells.set a (IntKind.u64.wrap ((m.at a).1 + nv), (m.at a).2) := by simp [becomes]
  have hou : outOf (m.at a) ⟨3, a, ov, os, nv, ns⟩ = ⟨(m.at a).1, (m.at a).2, true⟩ := by simp [outOf]
  rw [hcl, hou]
  exact h5
/-- **A step.** -/
theorem mdo_any {w0 w : World} {R : List Thing} {b : Nat} {m : M} (h : Sep w0 w (memT b m :: R)) (ht : m.trace.length ≤ 100000) (who : Int) (op : Op6) :
    Calls Try.prog 71 #[.pointer (some ⟨b, 0, none⟩), .int .i64 who, opVm op] w fun e w' => e = .returned (.tuple #[outVm (m.told who op), .int .i64 (err m.cells.length who op)]) ∧ Sep w0 w' (memT b (m.step who op) :: R) := by
  by_cases he : err m.cells.length who op = 0
  · rw [he]
    obtain ⟨h0, h8, k0, k3, a0, an⟩ := err_zero he
    obtain ⟨who, rfl⟩ : ∃ n : Nat, who = n := ⟨who.toNat, by omega⟩
    have hk : op.k = 0 ∨ op.k = 1 ∨ op.k = 2 ∨ op.k = 3 := by omega
    rcases hk with hk | hk | hk | hk
    · exact do_load h ht who op he hk
    · exact do_store h ht who op he hk
    · by_cases h1 : (m.at op.a.toNat).1 = op.ov
      · by_cases h2 : (m.at op.a.toNat).2 = op.os
        · exact do_swap_c h ht who op he hk h1 h2
        · exact do_swap_b h ht who op he hk h1 h2
      · exact do_swap_a h ht who op he hk h1
    · exact do_add h ht who op he hk
  · exact do_err h who op he
end Go.Proofs.Ytccioehckfdjdaa
