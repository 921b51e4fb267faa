/- The document's End of chapter 10. -/
import Derived.Test.YtccioehckfdjdaaMPra
set_option linter.unusedSimpArgs false
set_option linter.unusedVariables false
namespace Go.Proofs.Ytccioehckfdjdaa
open Go.RowKit Go.Tum Go.Tum.Y Go.Tum.W
def cgL (c : Cfg) : List Value := [.int .i64 c.t, .int .i64 c.b, .int .i64 c.w, .int .i64 c.f, .int .u64 c.fi, .int .u64 c.la]
structure RF (xs : List Value) (c : Cfg) (vn vl : Value) (wt wl top lim : Int) : Prop where
  len : xs.length = 12
  vn : xs[6]? = some vn
  vl : xs[7]? = some vl
  wt : xs[8]? = some (.int .i64 wt)
  wl : xs[9]? = some (.int .i64 wl)
  top : xs[10]? = some (.int .i64 top)
  lim : xs[11]? = some (.int .i64 lim)
theorem rf (c : Cfg) (vn vl : Value) (wt wl top lim : Int) : RF (rpL c vn vl wt wl top lim) c vn vl wt wl top lim := ⟨rfl, rfl, rfl, rfl, rfl, rfl, rfl⟩
def rendP (c : Cfg) (wt wl top lim : Int) (R : Nat) (p : List (Int × Int)) : List (Int × Int) :=
  let p1 := if top ≠ wt then (rput R p (at_ c 12 0 0) top).1 else p
  if lim ≠ wl then (rput R p1 (at_ c 14 0 0) lim).1 else p1
set_option maxRecDepth 100000 in
set_option maxHeartbeats 4000000 in
theorem rend10_no {w0 w : World} {Rs : List Thing} (c : Cfg) (hok : Y.Ok c) (vn vl : Value) (wt wl top lim : Int) (R : Nat) (sv : Value) (p : List (Int × Int)) (h1 : top = wt) (h2 : lim = wl) (h : Sep w0 w (refT sv p :: Rs)) :
    Calls Try.prog 57 #[.agg (rpL c vn vl wt wl top lim).toArray, .agg #[.int .i64 R, sv]] w fun e w' => ∃ sv', e = .returned (.agg [Value.int .i64 R, sv'].toArray) ∧ Sep w0 w' (refT sv' p :: Rs) := by
  have hs1 : sv.oneCell' = true := by
    rcases ownsRow_form (h.row 0 rfl) with ⟨e0, _⟩ | ⟨g, c', e0, _⟩ <;> (rw [e0]; simp [Value.oneCell'])
  have hone : ∀ u ∈ [Value.int .i64 R, sv], u.oneCell' = true := by simp [Value.oneCell']; exact hs1
  have hS := ((h.new 65 (rpL c vn vl wt wl top lim)).new 95 [.int .i64 R, sv]).new 95 [.int .i64 0, .slice none 0 0]
  simp only [World.size_alloc] at hS
  have d1 : (top != wt) = false := by simpa using h1
  have d2 : (lim != wl) = false := by simpa using h2
  have HS := Lib.hid hS; clear hS h h1 h2
  have hB := HS.out.blk 2 rfl
  have r8 := (hB.cell 8).trans (rf c vn vl wt wl top lim).wt
  have r9 := (hB.cell 9).trans (rf c vn vl wt wl top lim).wl
  have r10 := (hB.cell 10).trans (rf c vn vl wt wl top lim).top
  have r11 := (hB.cell 11).trans (rf c vn vl wt wl top lim).lim
  have rl := hB.lt
  have s0 := (HS.out.blk 1 rfl).cell 0
  have s1 := (HS.out.blk 1 rfl).cell 1
  have sl := (HS.out.blk 1 rfl).lt
  simp only [List.getElem?_cons_zero, List.getElem?_cons_succ] at s0 s1
  generalize rpL c vn vl wt wl top lim = RP at *
  go_enter Try.func57, Try.ntmps57
  go_wp2_with (refine wpList_store_sep HS.out 0 rfl [.int .i64 R, sv] 95 _ _ rfl rfl rfl rfl rfl (by kernel_rfl) hone (fun wB hB fB => ?_); have HB := Lib.hid hB; clear hB fB)
  exact bodyPost_ret (v := .agg [Value.int .i64 R, sv].toArray) (res_cell Try.results57 rfl (HB.out.blk 0 rfl).range Try.underlying95 rfl (by kernel_rfl)) rfl ⟨sv, rfl, HB.out.tail.tail.tail⟩
set_option maxRecDepth 100000 in
set_option maxHeartbeats 4000000 in
theorem rend10_a {w0 w : World} {Rs : List Thing} (c : Cfg) (hok : Y.Ok c) (vn vl : Value) (wt wl top lim : Int) (ht : 0 ≤ top ∧ top ≤ 1000) (R : Nat) (hR : R ≤ 65536) (sv : Value) (p : List (Int × Int)) (hp : p.length ≤ 100000) (h1 : top ≠ wt) (h2 : lim = wl) (h : Sep w0 w (refT sv p :: Rs)) :
    Calls Try.prog 57 #[.agg (rpL c vn vl wt wl top lim).toArray, .agg #[.int .i64 R, sv]] w fun e w' => ∃ sv', e = .returned (.agg [Value.int .i64 R, sv'].toArray) ∧ Sep w0 w' (refT sv' (rput R p (at_ c 12 0 0) top).1 :: Rs) := by
  have HA := Lib.hid (fun w => rat_any w c hok 12 0 0)
  have hwt : IntKind.u64.wrap top = top := by rw [IntKind.wrap_u64]; omega
  have hS := ((h.new 65 (rpL c vn vl wt wl top lim)).new 95 [.int .i64 R, sv]).new 95 [.int .i64 0, .slice none 0 0]
  simp only [World.size_alloc] at hS
  have d1 : (top != wt) = true := by simpa using h1
  have d2 : (lim != wl) = false := by simpa using h2
  have HS := Lib.hid hS; clear hS h h1 h2
  have hB := HS.out.blk 2 rfl
  have r8 := (hB.cell 8).trans (rf c vn vl wt wl top lim).wt
  have r9 := (hB.cell 9).trans (rf c vn vl wt wl top lim).wl
  have r10 := (hB.cell 10).trans (rf c vn vl wt wl top lim).top
  have r11 := (hB.cell 11).trans (rf c vn vl wt wl top lim).lim
  have rl := hB.lt
  have s0 := (HS.out.blk 1 rfl).cell 0
  have s1 := (HS.out.blk 1 rfl).cell 1
  have sl := (HS.out.blk 1 rfl).lt
  simp only [List.getElem?_cons_zero, List.getElem?_cons_succ] at s0 s1
  have hmd : Blk _ w.heap.size 65 (cgL c ++ [vn, vl, .int .i64 wt, .int .i64 wl, .int .i64 top, .int .i64 lim]) := (HS.out.blk 2 rfl).drew
  have hsd := (HS.out.blk 1 rfl).drew
  have HRF := Lib.hid (rf c vn vl wt wl top lim)
  unfold cfgV at HA
  generalize rpL c vn vl wt wl top lim = RP at *
  go_enter Try.func57, Try.ntmps57
  go_wp2_with fail
  refine wp_region_fr [(1, [0, 1, 2, 4, 5, 6]), (2, [3]), (3, [7]), (3, [8])] [] (by kernel_rfl) (by kernel_rfl) ?_
  simp only [theOps, nthOp, List.map_cons, List.map_nil, Array.getD_eq_getD_getElem?, List.getElem?_toArray, List.getElem?_cons_succ, List.getElem?_cons_zero, Option.getD_some]
  refine wpSegs_soft ?_
  repeat (first | (refine wpQuiet_load_mid 95 _ _ 0 [.int .i64 R, sv] _ rfl rfl rfl (rangeAt_after hsd (by simp)) Try.underlying95 rfl (by kernel_rfl) ?_; simp only [Act.put, List.setIfInBounds_toArray, List.set_cons_zero, List.set_cons_succ]) | (refine wpQuiet_load_mid 24 _ _ 0 (cgL c) _ rfl rfl rfl (rangeAt_pre hmd (by simp)) Try.underlying24 rfl (by kernel_rfl) ?_; simp only [Act.put, List.setIfInBounds_toArray, List.set_cons_zero, List.set_cons_succ]) | go_big_quiet_step (fail) | quiet_step (fail))
  refine wpQuiet_nil ?_
  refine wpSegs_keep ?_
  go_wp2_with fail
  refine (HA.out _).mono ?_
  rintro e w4 ⟨rfl, hf⟩
  have HF := Lib.hid hf
  have HS := Lib.hid (HS.out.drew.fr0 hf); clear hf r8 r9 r10 r11 rl s0 s1 sl hB hmd hsd
  go_wp2_with fail
  refine ⟨⟨⟨_, (by exact HF.out)⟩, rfl⟩, ?_⟩
  repeat ((first | refine wpSegs_soft ?_ | refine wpSegs_pure ?_ | refine wpSegs_here ?_); (repeat (first | go_big_quiet_step (fail) | quiet_step (fail))); refine wpQuiet_nil ?_)
  refine wpSegs_hard ?_
  go_wp2_with fail
  refine (rput10_sep R sv p (at_ c 12 0 0) top (by omega) hR (HS.out.pull 3 rfl)).mono ?_
  rintro e w5 ⟨sv', rfl, h5⟩
  have hs1 : sv'.oneCell' = true := by
    rcases ownsRow_form (h5.row 0 rfl) with ⟨e0, _⟩ | ⟨g, c', e0, _⟩ <;> (rw [e0]; simp [Value.oneCell'])
  have hone : ∀ u ∈ [Value.int .i64 R, sv'], u.oneCell' = true := by simp [Value.oneCell']; exact hs1
  have HS5 := Lib.hid (((h5.pull 3 rfl).pull 3 rfl).pull 3 rfl); clear h5
  have HS5 : Hid (Sep w0 w5 (blkT (w.heap.size + 1 + 1) 95 [.int .i64 0, .slice none 0 0] :: blkT (w.heap.size + 1) 95 [.int .i64 R, sv] :: blkT w.heap.size 65 RP :: refT sv' (rput R p (at_ c 12 0 0) top).1 :: Rs)) := HS5
  go_wp2_with fail
  refine wpSegs_hard ?_
  refine wpList_store_sep HS5.out 1 rfl [.int .i64 R, sv'] 95 _ _ rfl rfl rfl rfl rfl (by kernel_rfl) hone (fun wA hA fA => ?_)
  simp only [List.set_cons_zero, List.set_cons_succ] at hA
  have HX := Lib.hid hA; clear hA fA
  simp only [Act.put, List.setIfInBounds_toArray, List.set_cons_zero, List.set_cons_succ]
  go_wp2_with fail
  repeat ((first | refine wpSegs_soft ?_ | refine wpSegs_pure ?_ | refine wpSegs_here ?_); (repeat (first | go_big_quiet_step (fail) | quiet_step (fail))); refine wpQuiet_nil ?_)
  refine wpSegs_done ?_
  have r9 := ((HX.out.blk 2 rfl).cell 9).trans HRF.out.wl
  have r11 := ((HX.out.blk 2 rfl).cell 11).trans HRF.out.lim
  have rl := (HX.out.blk 2 rfl).lt
  go_wp2_with (first | (refine wpList_load_any 95 _ rfl rfl _ 0 rfl [.int .i64 R, sv'] _ (HX.out.blk 1 rfl).range Try.underlying95 rfl (by kernel_rfl) ?_) | (refine wpList_store_sep HX.out 0 rfl [.int .i64 R, sv'] 95 _ _ rfl rfl rfl rfl rfl (by kernel_rfl) hone (fun wB hB fB => ?_); have HB := Lib.hid hB; clear hB fB))
  exact bodyPost_ret (v := .agg [Value.int .i64 R, sv'].toArray) (res_cell Try.results57 rfl (HB.out.blk 0 rfl).range Try.underlying95 rfl (by kernel_rfl)) rfl ⟨sv', rfl, HB.out.tail.tail.tail⟩
set_option maxRecDepth 100000 in
set_option maxHeartbeats 4000000 in
theorem rend10_b {w0 w : World} {Rs : List Thing} (c : Cfg) (hok : Y.Ok c) (vn vl : Value) (wt wl top lim : Int) (ht : 0 ≤ lim ∧ lim ≤ 1000) (R : Nat) (hR : R ≤ 65536) (sv : Value) (p : List (Int × Int)) (hp : p.length ≤ 100000) (h1 : top = wt) (h2 : lim ≠ wl) (h : Sep w0 w (refT sv p :: Rs)) :
    Calls Try.prog 57 #[.agg (rpL c vn vl wt wl top lim).toArray, .agg #[.int .i64 R, sv]] w fun e w' => ∃ sv', e = .returned (.agg [Value.int .i64 R, sv'].toArray) ∧ Sep w0 w' (refT sv' (rput R p (at_ c 14 0 0) lim).1 :: Rs) := by
  have HA := Lib.hid (fun w => rat_any w c hok 14 0 0)
  have hwt : IntKind.u64.wrap lim = lim := by rw [IntKind.wrap_u64]; omega
  have hS := ((h.new 65 (rpL c vn vl wt wl top lim)).new 95 [.int .i64 R, sv]).new 95 [.int .i64 0, .slice none 0 0]
  simp only [World.size_alloc] at hS
  have d1 : (top != wt) = false := by simpa using h1
  have d2 : (lim != wl) = true := by simpa using h2
  have HS := Lib.hid hS; clear hS h h1 h2
  have hB := HS.out.blk 2 rfl
  have r8 := (hB.cell 8).trans (rf c vn vl wt wl top lim).wt
  have r9 := (hB.cell 9).trans (rf c vn vl wt wl top lim).wl
  have r10 := (hB.cell 10).trans (rf c vn vl wt wl top lim).top
  have r11 := (hB.cell 11).trans (rf c vn vl wt wl top lim).lim
  have rl := hB.lt
  have s0 := (HS.out.blk 1 rfl).cell 0
  have s1 := (HS.out.blk 1 rfl).cell 1
  have sl := (HS.out.blk 1 rfl).lt
  simp only [List.getElem?_cons_zero, List.getElem?_cons_succ] at s0 s1
  have hmd : Blk _ w.heap.size 65 (cgL c ++ [vn, vl, .int .i64 wt, .int .i64 wl, .int .i64 top, .int .i64 lim]) := (HS.out.blk 2 rfl).drew
  have hsd := (HS.out.blk 1 rfl).drew
  have HRF := Lib.hid (rf c vn vl wt wl top lim)
  unfold cfgV at HA
  generalize rpL c vn vl wt wl top lim = RP at *
  go_enter Try.func57, Try.ntmps57
  go_wp2_with fail
  refine wp_region_fr [(1, [0, 1, 2, 4, 5, 6]), (2, [3]), (3, [7]), (3, [8])] [] (by kernel_rfl) (by kernel_rfl) ?_
  simp only [theOps, nthOp, List.map_cons, List.map_nil, Array.getD_eq_getD_getElem?, List.getElem?_toArray, List.getElem?_cons_succ, List.getElem?_cons_zero, Option.getD_some]
  refine wpSegs_soft ?_
  repeat (first | (refine wpQuiet_load_mid 95 _ _ 0 [.int .i64 R, sv] _ rfl rfl rfl (rangeAt_after hsd (by simp)) Try.underlying95 rfl (by kernel_rfl) ?_; simp only [Act.put, List.setIfInBounds_toArray, List.set_cons_zero, List.set_cons_succ]) | (refine wpQuiet_load_mid 24 _ _ 0 (cgL c) _ rfl rfl rfl (rangeAt_pre hmd (by simp)) Try.underlying24 rfl (by kernel_rfl) ?_; simp only [Act.put, List.setIfInBounds_toArray, List.set_cons_zero, List.set_cons_succ]) | go_big_quiet_step (fail) | quiet_step (fail))
  refine wpQuiet_nil ?_
  refine wpSegs_keep ?_
  go_wp2_with fail
  refine (HA.out _).mono ?_
  rintro e w4 ⟨rfl, hf⟩
  have HF := Lib.hid hf
  have HS := Lib.hid (HS.out.drew.fr0 hf); clear hf r8 r9 r10 r11 rl s0 s1 sl hB hmd hsd
  go_wp2_with fail
  refine ⟨⟨⟨_, (by exact HF.out)⟩, rfl⟩, ?_⟩
  repeat ((first | refine wpSegs_soft ?_ | refine wpSegs_pure ?_ | refine wpSegs_here ?_); (repeat (first | go_big_quiet_step (fail) | quiet_step (fail))); refine wpQuiet_nil ?_)
  refine wpSegs_hard ?_
  go_wp2_with fail
  refine (rput10_sep R sv p (at_ c 14 0 0) lim (by omega) hR (HS.out.pull 3 rfl)).mono ?_
  rintro e w5 ⟨sv', rfl, h5⟩
  have hs1 : sv'.oneCell' = true := by
    rcases ownsRow_form (h5.row 0 rfl) with ⟨e0, _⟩ | ⟨g, c', e0, _⟩ <;> (rw [e0]; simp [Value.oneCell'])
  have hone : ∀ u ∈ [Value.int .i64 R, sv'], u.oneCell' = true := by simp [Value.oneCell']; exact hs1
  have HS5 := Lib.hid (((h5.pull 3 rfl).pull 3 rfl).pull 3 rfl); clear h5
  have HS5 : Hid (Sep w0 w5 (blkT (w.heap.size + 1 + 1) 95 [.int .i64 0, .slice none 0 0] :: blkT (w.heap.size + 1) 95 [.int .i64 R, sv] :: blkT w.heap.size 65 RP :: refT sv' (rput R p (at_ c 14 0 0) lim).1 :: Rs)) := HS5
  go_wp2_with fail
  refine wpSegs_hard ?_
  refine wpList_store_sep HS5.out 1 rfl [.int .i64 R, sv'] 95 _ _ rfl rfl rfl rfl rfl (by kernel_rfl) hone (fun wA hA fA => ?_)
  simp only [List.set_cons_zero, List.set_cons_succ] at hA
  have HX := Lib.hid hA; clear hA fA
  simp only [Act.put, List.setIfInBounds_toArray, List.set_cons_zero, List.set_cons_succ]
  go_wp2_with fail
  repeat ((first | refine wpSegs_soft ?_ | refine wpSegs_pure ?_ | refine wpSegs_here ?_); (repeat (first | go_big_quiet_step (fail) | quiet_step (fail))); refine wpQuiet_nil ?_)
  refine wpSegs_done ?_
  have r9 := ((HX.out.blk 2 rfl).cell 9).trans HRF.out.wl
  have r11 := ((HX.out.blk 2 rfl).cell 11).trans HRF.out.lim
  have rl := (HX.out.blk 2 rfl).lt
  go_wp2_with (first | (refine wpList_load_any 95 _ rfl rfl _ 0 rfl [.int .i64 R, sv'] _ (HX.out.blk 1 rfl).range Try.underlying95 rfl (by kernel_rfl) ?_) | (refine wpList_store_sep HX.out 0 rfl [.int .i64 R, sv'] 95 _ _ rfl rfl rfl rfl rfl (by kernel_rfl) hone (fun wB hB fB => ?_); have HB := Lib.hid hB; clear hB fB))
  exact bodyPost_ret (v := .agg [Value.int .i64 R, sv'].toArray) (res_cell Try.results57 rfl (HB.out.blk 0 rfl).range Try.underlying95 rfl (by kernel_rfl)) rfl ⟨sv', rfl, HB.out.tail.tail.tail⟩
theorem rput_len (R : Nat) (p : List (Int × Int)) (a v : Int) : (rput R p a v).1.length ≤ p.length + 1 := by
  unfold rput
  split <;> simp
set_option maxRecDepth 100000 in
set_option maxHeartbeats 4000000 in
theorem rend10_ab {w0 w : World} {Rs : List Thing} (c : Cfg) (hok : Y.Ok c) (vn vl : Value) (wt wl top lim : Int) (ht : 0 ≤ top ∧ top ≤ 1000) (R : Nat) (hR : R ≤ 65536) (sv : Value) (p : List (Int × Int)) (hp : p.length ≤ 100000) (hl : 0 ≤ lim ∧ lim ≤ 1000) (h1 : top ≠ wt) (h2 : lim ≠ wl) (h : Sep w0 w (refT sv p :: Rs)) :
    Calls Try.prog 57 #[.agg (rpL c vn vl wt wl top lim).toArray, .agg #[.int .i64 R, sv]] w fun e w' => ∃ sv', e = .returned (.agg [Value.int .i64 R, sv'].toArray) ∧ Sep w0 w' (refT sv' (rput R (rput R p (at_ c 12 0 0) top).1 (at_ c 14 0 0) lim).1 :: Rs) := by
  have hp1 := rput_len R p (at_ c 12 0 0) top
  have hwl : IntKind.u64.wrap lim = lim := by rw [IntKind.wrap_u64]; omega
  have HA2 := Lib.hid (fun w => rat_any w c hok 14 0 0)
  have HA := Lib.hid (fun w => rat_any w c hok 12 0 0)
  have hwt : IntKind.u64.wrap top = top := by rw [IntKind.wrap_u64]; omega
  have hS := ((h.new 65 (rpL c vn vl wt wl top lim)).new 95 [.int .i64 R, sv]).new 95 [.int .i64 0, .slice none 0 0]
  simp only [World.size_alloc] at hS
  have d1 : (top != wt) = true := by simpa using h1
  have d2 : (lim != wl) = true := by simpa using h2
  have HS := Lib.hid hS; clear hS h h1 h2
  have hB := HS.out.blk 2 rfl
  have r8 := (hB.cell 8).trans (rf c vn vl wt wl top lim).wt
  have r9 := (hB.cell 9).trans (rf c vn vl wt wl top lim).wl
  have r10 := (hB.cell 10).trans (rf c vn vl wt wl top lim).top
  have r11 := (hB.cell 11).trans (rf c vn vl wt wl top lim).lim
  have rl := hB.lt
  have s0 := (HS.out.blk 1 rfl).cell 0
  have s1 := (HS.out.blk 1 rfl).cell 1
  have sl := (HS.out.blk 1 rfl).lt
  simp only [List.getElem?_cons_zero, List.getElem?_cons_succ] at s0 s1
  have hmd : Blk _ w.heap.size 65 (cgL c ++ [vn, vl, .int .i64 wt, .int .i64 wl, .int .i64 top, .int .i64 lim]) := (HS.out.blk 2 rfl).drew
  have hsd := (HS.out.blk 1 rfl).drew
  have HPRE := Lib.hid (fun (w' : World) (hB : Blk w' w.heap.size 65 (rpL c vn vl wt wl top lim)) => (show Blk w'.drew w.heap.size 65 (cgL c ++ [vn, vl, .int .i64 wt, .int .i64 wl, .int .i64 top, .int .i64 lim]) from hB.drew))
  have HRF := Lib.hid (rf c vn vl wt wl top lim)
  unfold cfgV at HA HA2
  generalize rpL c vn vl wt wl top lim = RP at *
  go_enter Try.func57, Try.ntmps57
  go_wp2_with fail
  refine wp_region_fr [(1, [0, 1, 2, 4, 5, 6]), (2, [3]), (3, [7]), (3, [8])] [] (by kernel_rfl) (by kernel_rfl) ?_
  simp only [theOps, nthOp, List.map_cons, List.map_nil, Array.getD_eq_getD_getElem?, List.getElem?_toArray, List.getElem?_cons_succ, List.getElem?_cons_zero, Option.getD_some]
  refine wpSegs_soft ?_
  repeat (first | (refine wpQuiet_load_mid 95 _ _ 0 [.int .i64 R, sv] _ rfl rfl rfl (rangeAt_after hsd (by simp)) Try.underlying95 rfl (by kernel_rfl) ?_; simp only [Act.put, List.setIfInBounds_toArray, List.set_cons_zero, List.set_cons_succ]) | (refine wpQuiet_load_mid 24 _ _ 0 (cgL c) _ rfl rfl rfl (rangeAt_pre hmd (by simp)) Try.underlying24 rfl (by kernel_rfl) ?_; simp only [Act.put, List.setIfInBounds_toArray, List.set_cons_zero, List.set_cons_succ]) | go_big_quiet_step (fail) | quiet_step (fail))
  refine wpQuiet_nil ?_
  refine wpSegs_keep ?_
  go_wp2_with fail
  refine (HA.out _).mono ?_
  rintro e w4 ⟨rfl, hf⟩
  have HF := Lib.hid hf
  have HS := Lib.hid (HS.out.drew.fr0 hf); clear hf r8 r9 r10 r11 rl s0 s1 sl hB hmd hsd
  go_wp2_with fail
  refine ⟨⟨⟨_, (by exact HF.out)⟩, rfl⟩, ?_⟩
  repeat ((first | refine wpSegs_soft ?_ | refine wpSegs_pure ?_ | refine wpSegs_here ?_); (repeat (first | go_big_quiet_step (fail) | quiet_step (fail))); refine wpQuiet_nil ?_)
  refine wpSegs_hard ?_
  go_wp2_with fail
  refine (rput10_sep R sv p (at_ c 12 0 0) top (by omega) hR (HS.out.pull 3 rfl)).mono ?_
  rintro e w5 ⟨sv', rfl, h5⟩
  have hs1 : sv'.oneCell' = true := by
    rcases ownsRow_form (h5.row 0 rfl) with ⟨e0, _⟩ | ⟨g, c', e0, _⟩ <;> (rw [e0]; simp [Value.oneCell'])
  have hone : ∀ u ∈ [Value.int .i64 R, sv'], u.oneCell' = true := by simp [Value.oneCell']; exact hs1
  have HS5 := Lib.hid (((h5.pull 3 rfl).pull 3 rfl).pull 3 rfl); clear h5
  have HS5 : Hid (Sep w0 w5 (blkT (w.heap.size + 1 + 1) 95 [.int .i64 0, .slice none 0 0] :: blkT (w.heap.size + 1) 95 [.int .i64 R, sv] :: blkT w.heap.size 65 RP :: refT sv' (rput R p (at_ c 12 0 0) top).1 :: Rs)) := HS5
  go_wp2_with fail
  refine wpSegs_hard ?_
  refine wpList_store_sep HS5.out 1 rfl [.int .i64 R, sv'] 95 _ _ rfl rfl rfl rfl rfl (by kernel_rfl) hone (fun wA hA fA => ?_)
  simp only [List.set_cons_zero, List.set_cons_succ] at hA
  have HX := Lib.hid hA; clear hA fA
  simp only [Act.put, List.setIfInBounds_toArray, List.set_cons_zero, List.set_cons_succ]
  go_wp2_with fail
  repeat ((first | refine wpSegs_soft ?_ | refine wpSegs_pure ?_ | refine wpSegs_here ?_); (repeat (first | go_big_quiet_step (fail) | quiet_step (fail))); refine wpQuiet_nil ?_)
  refine wpSegs_done ?_
  have r9 := ((HX.out.blk 2 rfl).cell 9).trans HRF.out.wl
  have r11 := ((HX.out.blk 2 rfl).cell 11).trans HRF.out.lim
  have rl := (HX.out.blk 2 rfl).lt
  have hmd := HPRE.out _ (HX.out.blk 2 rfl)
  have hsd := (HX.out.blk 1 rfl).drew
  have HS := Lib.hid HX.out; clear HX hone hs1
  go_wp2_with fail
  refine wp_region_fr [(1, [0, 1, 2, 4, 5, 6]), (2, [3]), (3, [7]), (3, [8])] [] (by kernel_rfl) (by kernel_rfl) ?_
  simp only [theOps, nthOp, List.map_cons, List.map_nil, Array.getD_eq_getD_getElem?, List.getElem?_toArray, List.getElem?_cons_succ, List.getElem?_cons_zero, Option.getD_some]
  refine wpSegs_soft ?_
  repeat (first | (refine wpQuiet_load_mid 95 _ _ 0 [.int .i64 R, sv'] _ rfl rfl rfl (rangeAt_after hsd (by simp)) Try.underlying95 rfl (by kernel_rfl) ?_; simp only [Act.put, List.setIfInBounds_toArray, List.set_cons_zero, List.set_cons_succ]) | (refine wpQuiet_load_mid 24 _ _ 0 (cgL c) _ rfl rfl rfl (rangeAt_pre hmd (by simp)) Try.underlying24 rfl (by kernel_rfl) ?_; simp only [Act.put, List.setIfInBounds_toArray, List.set_cons_zero, List.set_cons_succ]) | go_big_quiet_step (fail) | quiet_step (fail))
  refine wpQuiet_nil ?_
  refine wpSegs_keep ?_
  go_wp2_with fail
  refine (HA2.out _).mono ?_
  rintro e w4 ⟨rfl, hf⟩
  have HF := Lib.hid hf
  have HS := Lib.hid (HS.out.drew.fr0 hf); clear hf r9 r11 rl hmd hsd
  go_wp2_with fail
  refine ⟨⟨⟨_, (by exact HF.out)⟩, rfl⟩, ?_⟩
  repeat ((first | refine wpSegs_soft ?_ | refine wpSegs_pure ?_ | refine wpSegs_here ?_); (repeat (first | go_big_quiet_step (fail) | quiet_step (fail))); refine wpQuiet_nil ?_)
  refine wpSegs_hard ?_
  go_wp2_with fail
  refine (rput10_sep R sv' (rput R p (at_ c 12 0 0) top).1 (at_ c 14 0 0) lim (by omega) hR (HS.out.pull 3 rfl)).mono ?_
  rintro e w5 ⟨sv2, rfl, h5⟩
  have hs1 : sv2.oneCell' = true := by
    rcases ownsRow_form (h5.row 0 rfl) with ⟨e0, _⟩ | ⟨g, c', e0, _⟩ <;> (rw [e0]; simp [Value.oneCell'])
  have hone : ∀ u ∈ [Value.int .i64 R, sv2], u.oneCell' = true := by simp [Value.oneCell']; exact hs1
  have HS5 := Lib.hid (((h5.pull 3 rfl).pull 3 rfl).pull 3 rfl); clear h5
  have HS5 : Hid (Sep w0 w5 (blkT (w.heap.size + 1 + 1) 95 [.int .i64 0, .slice none 0 0] :: blkT (w.heap.size + 1) 95 [.int .i64 R, sv'] :: blkT w.heap.size 65 RP :: refT sv2 (rput R (rput R p (at_ c 12 0 0) top).1 (at_ c 14 0 0) lim).1 :: Rs)) := HS5
  go_wp2_with fail
  refine wpSegs_hard ?_
  refine wpList_store_sep HS5.out 1 rfl [.int .i64 R, sv2] 95 _ _ rfl rfl rfl rfl rfl (by kernel_rfl) hone (fun wA hA fA => ?_)
  simp only [List.set_cons_zero, List.set_cons_succ] at hA
  have HX := Lib.hid hA; clear hA fA
  simp only [Act.put, List.setIfInBounds_toArray, List.set_cons_zero, List.set_cons_succ]
  go_wp2_with fail
  repeat ((first | refine wpSegs_soft ?_ | refine wpSegs_pure ?_ | refine wpSegs_here ?_); (repeat (first | go_big_quiet_step (fail) | quiet_step (fail))); refine wpQuiet_nil ?_)
  refine wpSegs_done ?_
  have r9 := ((HX.out.blk 2 rfl).cell 9).trans HRF.out.wl
  have r11 := ((HX.out.blk 2 rfl).cell 11).trans HRF.out.lim
  have rl := (HX.out.blk 2 rfl).lt
  go_wp2_with (first | (refine wpList_load_any 95 _ rfl rfl _ 0 rfl [.int .i64 R, sv2] _ (HX.out.blk 1 rfl).range Try.underlying95 rfl (by kernel_rfl) ?_) | (refine wpList_store_sep HX.out 0 rfl [.int .i64 R, sv2] 95 _ _ rfl rfl rfl rfl rfl (by kernel_rfl) hone (fun wB hB fB => ?_); have HB := Lib.hid hB; clear hB fB))
  exact bodyPost_ret (v := .agg [Value.int .i64 R, sv2].toArray) (res_cell Try.results57 rfl (HB.out.blk 0 rfl).range Try.underlying95 rfl (by kernel_rfl)) rfl ⟨sv2, rfl, HB.out.tail.tail.tail⟩
theorem rend10_any {w0 w : World} {Rs : List Thing} (c : Cfg) (hok : Y.Ok c) (vn vl : Value) (wt wl top lim : Int) (ht : 0 ≤ top ∧ top ≤ 1000) (hl : 0 ≤ lim ∧ lim ≤ 1000) (R : Nat) (hR : R ≤ 65536) (sv : Value) (p : List (Int × Int)) (hp : p.length ≤ 100000) (h : Sep w0 w (refT sv p :: Rs)) :
    Calls Try.prog 57 #[.agg (rpL c vn vl wt wl top lim).toArray, .agg #[.int .i64 R, sv]] w fun e w' => ∃ sv', e = .returned (.agg [Value.int .i64 R, sv'].toArray) ∧ Sep w0 w' (refT sv' (rendP c wt wl top lim R p) :: Rs) := by
  unfold rendP
  dsimp only
  by_cases h1 : top = wt <;> by_cases h2 : lim = wl
  · rw [if_neg (Classical.not_not.2 h2), if_neg (Classical.not_not.2 h1)]; exact rend10_no c hok vn vl wt wl top lim R sv p h1 h2 h
  · rw [if_pos h2, if_neg (Classical.not_not.2 h1)]; exact rend10_b c hok vn vl wt wl top lim hl R hR sv p hp h1 h2 h
  · rw [if_neg (Classical.not_not.2 h2), if_pos h1]; exact rend10_a c hok vn vl wt wl top lim ht R hR sv p hp h1 h2 h
  · rw [if_pos h2, if_pos h1]; exact rend10_ab c hok vn vl wt wl top lim ht R hR sv p hp hl h1 h2 h
end Go.Proofs.Ytccioehckfdjdaa
