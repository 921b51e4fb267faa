/- The walk of view's Ask. -/
import Derived.Test.YtccioehckfdjdaaVw
set_option linter.unusedSimpArgs false
set_option linter.unusedVariables false
namespace Go.Proofs.Ytccioehckfdjdaa
open Go.RowKit Go.Tum Go.Tum.Y Go.Tum.Vw
theorem nameV_wrap (b : Int) : ∃ x, IntKind.u64.wrap (IntKind.u64.wrap b + 1) = x ∧ nameOf b = x := ⟨_, rfl, rfl⟩
set_option maxRecDepth 100000 in
set_option maxHeartbeats 4000000 in
theorem vask_1 (w : World) (c : Cfg) (hok : Ok c) (b : Nat) (who seq : Int) (held step block a val s : Int) (hB : Blk w b 152 (vwL (mapCells c) who seq ⟨held, step, block, a, val, s⟩)) (hst : step = 1) :
    Calls Try.prog 19 #[.pointer (some ⟨b, 0, none⟩)] w fun e w' => e = .returned (.tuple #[.agg (enP (Vw.ask c who ⟨held, step, block, a, val, s⟩).1).toArray, .bool (Vw.ask c who ⟨held, step, block, a, val, s⟩).2]) ∧ Fr [] w w' := by
  have hak : Vw.ask c who ⟨held, step, block, a, val, s⟩ = (⟨1, Y.at_ c 3 who 0, 0, 0, nameOf block, 0⟩, true) := by first | (subst hst; simp [Vw.ask]) | simp [Vw.ask, hst]
  rw [hak]; clear hak
  dsimp only
  have HA := Lib.hid (fun w => at_any w c hok 3 who 0)
  have hsz : (mapCells c).length = 24 := rfl
  unfold mapV at *
  generalize mapCells c = cs at *
  generalize Y.at_ c 3 who 0 = av at HA ⊢
  have hS := (Sep.nil (Fr.refl [] w)).new 43 [.int .i64 0, .int .i64 0, .int .u64 0, .int .u64 0, .int .u64 0, .int .u64 0]
  have HS := Lib.hid hS; clear hS
  have HB := Lib.hid (fun w' (f : Fr [] w w') => hB.fr f (by simp))
  have hbw := hB.lt
  clear hB
  subst hst
  obtain ⟨nm, hnm, hnm2⟩ := nameV_wrap block
  rw [hnm2]; clear hnm2
  have hB := HB.out _ HS.out.fr
  have k24 := (hB.cell 24).trans (vwL_at hsz who seq ⟨held, 1, block, a, val, s⟩).1
  have k27 := (hB.cell 27).trans (vwL_at hsz who seq ⟨held, 1, block, a, val, s⟩).2.2.2.1
  have k28 := (hB.cell 28).trans (vwL_at hsz who seq ⟨held, 1, block, a, val, s⟩).2.2.2.2.1
  have k29 := (hB.cell 29).trans (vwL_at hsz who seq ⟨held, 1, block, a, val, s⟩).2.2.2.2.2.1
  dsimp only at k27 k28 k29
  have kl := hB.lt
  have hmd := hB.drew
  have hne : ¬ b = w.heap.size := by omega
  clear hB
  go_enter Try.func19, Try.ntmps19
  go_wp2_with fail
  refine wp_region_fr [(1, [0, 1, 2, 3, 4, 5, 6, 7, 9, 10, 11, 12, 13, 14, 15]), (2, [8]), (0, [16]), (3, [17]), (0, [18])] [w.heap.size] (by kernel_rfl) (by kernel_rfl) ?_
  simp only [theOps, nthOp, List.map_cons, List.map_nil, Array.getD_eq_getD_getElem?, List.getElem?_toArray, List.getElem?_cons_succ, List.getElem?_cons_zero, Option.getD_some]
  refine wpSegs_soft ?_
  iterate 3 (first | go_big_quiet_step (fail) | quiet_step (fail))
  refine wpQuiet_load_mid 31 _ b 0 cs _ rfl rfl rfl (rangeAt_pre hmd (by simp <;> omega)) Try.underlying31 rfl (by rw [hsz]; kernel_rfl) ?_
  simp only [Act.put, List.setIfInBounds_toArray, List.set_cons_zero, List.set_cons_succ]
  repeat (first | go_big_quiet_step (fail) | quiet_step (fail))
  refine wpQuiet_nil ?_
  refine wpSegs_keep ?_
  go_wp2_with fail
  refine (HA.out _).mono ?_
  rintro e w2 ⟨rfl, hf⟩
  have HF := Lib.hid (hf.mono (fp' := [w.heap.size]) (by simp))
  have HS := Lib.hid (HS.out.drew.fr0 hf)
  clear hf
  go_wp2_with fail
  refine ⟨⟨⟨_, (by exact HF.out)⟩, rfl⟩, ?_⟩
  repeat ((first | refine wpSegs_soft ?_ | refine wpSegs_pure ?_ | refine wpSegs_here ?_); (repeat (first | go_big_quiet_step (fail) | quiet_step (fail))); refine wpQuiet_nil ?_)
  refine wpSegs_hard ?_
  have honeP := enP_one ⟨1, av, 0, 0, nm, 0⟩
  refine wpList_store_sep HS.out 0 rfl (enP ⟨1, av, 0, 0, nm, 0⟩) 43 _ _ rfl rfl rfl rfl rfl (by kernel_rfl) honeP (fun wA hA _ => ?_)
  have HS := Lib.hid hA; clear hA
  go_wp2_with fail
  repeat ((first | refine wpSegs_soft ?_ | refine wpSegs_pure ?_ | refine wpSegs_here ?_); (repeat (first | go_big_quiet_step (fail) | quiet_step (fail))); refine wpQuiet_nil ?_)
  refine wpSegs_done ?_
  go_wp2_with fail
  exact bodyPost_ret (v := .tuple #[.agg (enP ⟨1, av, 0, 0, nm, 0⟩).toArray, .bool true]) (res_cell_tmp Try.results19 rfl rfl (HS.out.blk 0 rfl).range Try.underlying43 rfl (by kernel_rfl)) rfl ⟨rfl, HS.out.fr⟩
set_option maxRecDepth 100000 in
set_option maxHeartbeats 4000000 in
theorem vask_2 (w : World) (c : Cfg) (hok : Ok c) (b : Nat) (who seq : Int) (held step block a val s : Int) (hB : Blk w b 152 (vwL (mapCells c) who seq ⟨held, step, block, a, val, s⟩)) (hst : step = 2) :
    Calls Try.prog 19 #[.pointer (some ⟨b, 0, none⟩)] w fun e w' => e = .returned (.tuple #[.agg (enP (Vw.ask c who ⟨held, step, block, a, val, s⟩).1).toArray, .bool (Vw.ask c who ⟨held, step, block, a, val, s⟩).2]) ∧ Fr [] w w' := by
  have hak : Vw.ask c who ⟨held, step, block, a, val, s⟩ = (⟨0, Y.at_ c 11 block 0, 0, 0, 0, 0⟩, true) := by first | (subst hst; simp [Vw.ask]) | simp [Vw.ask, hst]
  rw [hak]; clear hak
  dsimp only
  have HA := Lib.hid (fun w => at_any w c hok 11 block 0)
  have hsz : (mapCells c).length = 24 := rfl
  unfold mapV at *
  generalize mapCells c = cs at *
  generalize Y.at_ c 11 block 0 = av at HA ⊢
  have hS := (Sep.nil (Fr.refl [] w)).new 43 [.int .i64 0, .int .i64 0, .int .u64 0, .int .u64 0, .int .u64 0, .int .u64 0]
  have HS := Lib.hid hS; clear hS
  have HB := Lib.hid (fun w' (f : Fr [] w w') => hB.fr f (by simp))
  have hbw := hB.lt
  clear hB
  subst hst
  have hB := HB.out _ HS.out.fr
  have k24 := (hB.cell 24).trans (vwL_at hsz who seq ⟨held, 2, block, a, val, s⟩).1
  have k27 := (hB.cell 27).trans (vwL_at hsz who seq ⟨held, 2, block, a, val, s⟩).2.2.2.1
  have k28 := (hB.cell 28).trans (vwL_at hsz who seq ⟨held, 2, block, a, val, s⟩).2.2.2.2.1
  have k29 := (hB.cell 29).trans (vwL_at hsz who seq ⟨held, 2, block, a, val, s⟩).2.2.2.2.2.1
  dsimp only at k27 k28 k29
  have kl := hB.lt
  have hmd := hB.drew
  have hne : ¬ b = w.heap.size := by omega
  clear hB
  go_enter Try.func19, Try.ntmps19
  go_wp2_with fail
  refine wp_region_fr [(1, [0, 1, 2, 3, 4, 5, 6, 7]), (3, [8]), (0, [9]), (3, [10]), (0, [11])] [w.heap.size] (by kernel_rfl) (by kernel_rfl) ?_
  simp only [theOps, nthOp, List.map_cons, List.map_nil, Array.getD_eq_getD_getElem?, List.getElem?_toArray, List.getElem?_cons_succ, List.getElem?_cons_zero, Option.getD_some]
  refine wpSegs_soft ?_
  iterate 3 (first | go_big_quiet_step (fail) | quiet_step (fail))
  refine wpQuiet_load_mid 31 _ b 0 cs _ rfl rfl rfl (rangeAt_pre hmd (by simp <;> omega)) Try.underlying31 rfl (by rw [hsz]; kernel_rfl) ?_
  simp only [Act.put, List.setIfInBounds_toArray, List.set_cons_zero, List.set_cons_succ]
  repeat (first | go_big_quiet_step (fail) | quiet_step (fail))
  refine wpQuiet_nil ?_
  refine wpSegs_hard ?_
  go_wp2_with fail
  refine (HA.out _).mono ?_
  rintro e w2 ⟨rfl, hf⟩
  have HS := Lib.hid (HS.out.drew.fr0 hf)
  clear hf
  go_wp2_with fail
  repeat ((first | refine wpSegs_soft ?_ | refine wpSegs_pure ?_ | refine wpSegs_here ?_); (repeat (first | go_big_quiet_step (fail) | quiet_step (fail))); refine wpQuiet_nil ?_)
  refine wpSegs_hard ?_
  have honeP := enP_one ⟨0, av, 0, 0, 0, 0⟩
  refine wpList_store_sep HS.out 0 rfl (enP ⟨0, av, 0, 0, 0, 0⟩) 43 _ _ rfl rfl rfl rfl rfl (by kernel_rfl) honeP (fun wA hA _ => ?_)
  have HS := Lib.hid hA; clear hA
  go_wp2_with fail
  repeat ((first | refine wpSegs_soft ?_ | refine wpSegs_pure ?_ | refine wpSegs_here ?_); (repeat (first | go_big_quiet_step (fail) | quiet_step (fail))); refine wpQuiet_nil ?_)
  refine wpSegs_done ?_
  go_wp2_with fail
  exact bodyPost_ret (v := .tuple #[.agg (enP ⟨0, av, 0, 0, 0, 0⟩).toArray, .bool true]) (res_cell_tmp Try.results19 rfl rfl (HS.out.blk 0 rfl).range Try.underlying43 rfl (by kernel_rfl)) rfl ⟨rfl, HS.out.fr⟩
set_option maxRecDepth 100000 in
set_option maxHeartbeats 4000000 in
theorem vask_3 (w : World) (c : Cfg) (hok : Ok c) (b : Nat) (who seq : Int) (held step block a val s : Int) (hB : Blk w b 152 (vwL (mapCells c) who seq ⟨held, step, block, a, val, s⟩)) (hst : step = 3) :
    Calls Try.prog 19 #[.pointer (some ⟨b, 0, none⟩)] w fun e w' => e = .returned (.tuple #[.agg (enP (Vw.ask c who ⟨held, step, block, a, val, s⟩).1).toArray, .bool (Vw.ask c who ⟨held, step, block, a, val, s⟩).2]) ∧ Fr [] w w' := by
  have hak : Vw.ask c who ⟨held, step, block, a, val, s⟩ = (⟨0, a, 0, 0, 0, 0⟩, true) := by first | (subst hst; simp [Vw.ask]) | simp [Vw.ask, hst]
  rw [hak]; clear hak
  dsimp only
  have HA := Lib.hid (fun w => at_any w c hok 3 who 0)
  have hsz : (mapCells c).length = 24 := rfl
  unfold mapV at *
  generalize mapCells c = cs at *
  generalize Y.at_ c 3 who 0 = av at HA ⊢
  have hS := (Sep.nil (Fr.refl [] w)).new 43 [.int .i64 0, .int .i64 0, .int .u64 0, .int .u64 0, .int .u64 0, .int .u64 0]
  have HS := Lib.hid hS; clear hS
  have HB := Lib.hid (fun w' (f : Fr [] w w') => hB.fr f (by simp))
  have hbw := hB.lt
  clear hB
  subst hst
  have hB := HB.out _ HS.out.fr
  have k24 := (hB.cell 24).trans (vwL_at hsz who seq ⟨held, 3, block, a, val, s⟩).1
  have k27 := (hB.cell 27).trans (vwL_at hsz who seq ⟨held, 3, block, a, val, s⟩).2.2.2.1
  have k28 := (hB.cell 28).trans (vwL_at hsz who seq ⟨held, 3, block, a, val, s⟩).2.2.2.2.1
  have k29 := (hB.cell 29).trans (vwL_at hsz who seq ⟨held, 3, block, a, val, s⟩).2.2.2.2.2.1
  dsimp only at k27 k28 k29
  have kl := hB.lt
  have hmd := hB.drew
  have hne : ¬ b = w.heap.size := by omega
  clear hB
  go_enter Try.func19, Try.ntmps19
  have honeP := enP_one ⟨0, a, 0, 0, 0, 0⟩
  go_wp2_with (first | (refine wpList_store_sep HS.out 0 rfl (enP ⟨0, a, 0, 0, 0, 0⟩) 43 _ _ rfl rfl rfl rfl rfl (by kernel_rfl) honeP (fun wA hA _ => ?_); have HS := Lib.hid hA; clear hA))
  exact bodyPost_ret (v := .tuple #[.agg (enP ⟨0, a, 0, 0, 0, 0⟩).toArray, .bool true]) (res_cell_tmp Try.results19 rfl rfl (HS.out.blk 0 rfl).range Try.underlying43 rfl (by kernel_rfl)) rfl ⟨rfl, HS.out.fr⟩
set_option maxRecDepth 100000 in
set_option maxHeartbeats 4000000 in
theorem vask_0 (w : World) (c : Cfg) (hok : Ok c) (b : Nat) (who seq : Int) (held step block a val s : Int) (hB : Blk w b 152 (vwL (mapCells c) who seq ⟨held, step, block, a, val, s⟩)) (hst : ¬ step = 1 ∧ ¬ step = 2 ∧ ¬ step = 3) :
    Calls Try.prog 19 #[.pointer (some ⟨b, 0, none⟩)] w fun e w' => e = .returned (.tuple #[.agg (enP (Vw.ask c who ⟨held, step, block, a, val, s⟩).1).toArray, .bool (Vw.ask c who ⟨held, step, block, a, val, s⟩).2]) ∧ Fr [] w w' := by
  have hak : Vw.ask c who ⟨held, step, block, a, val, s⟩ = (p0, false) := by first | (subst hst; simp [Vw.ask]) | simp [Vw.ask, hst]
  rw [hak]; clear hak
  dsimp only
  have HA := Lib.hid (fun w => at_any w c hok 3 who 0)
  have hsz : (mapCells c).length = 24 := rfl
  unfold mapV at *
  generalize mapCells c = cs at *
  generalize Y.at_ c 3 who 0 = av at HA ⊢
  have hS := (Sep.nil (Fr.refl [] w)).new 43 [.int .i64 0, .int .i64 0, .int .u64 0, .int .u64 0, .int .u64 0, .int .u64 0]
  have HS := Lib.hid hS; clear hS
  have HB := Lib.hid (fun w' (f : Fr [] w w') => hB.fr f (by simp))
  have hbw := hB.lt
  clear hB
  obtain ⟨n1, n2, n3⟩ := hst
  have n1 : (step == 1) = false := by simpa using n1
  have n2 : (step == 2) = false := by simpa using n2
  have n3 : (step == 3) = false := by simpa using n3
  have hB := HB.out _ HS.out.fr
  have k24 := (hB.cell 24).trans (vwL_at hsz who seq ⟨held, step, block, a, val, s⟩).1
  have k27 := (hB.cell 27).trans (vwL_at hsz who seq ⟨held, step, block, a, val, s⟩).2.2.2.1
  have k28 := (hB.cell 28).trans (vwL_at hsz who seq ⟨held, step, block, a, val, s⟩).2.2.2.2.1
  have k29 := (hB.cell 29).trans (vwL_at hsz who seq ⟨held, step, block, a, val, s⟩).2.2.2.2.2.1
  dsimp only at k27 k28 k29
  have kl := hB.lt
  have hmd := hB.drew
  have hne : ¬ b = w.heap.size := by omega
  clear hB
  go_enter Try.func19, Try.ntmps19
  have honeP := enP_one p0
  go_wp2_with (first | (refine wpList_store_sep HS.out 0 rfl (enP p0) 43 _ _ rfl rfl rfl rfl rfl (by kernel_rfl) honeP (fun wA hA _ => ?_); have HS := Lib.hid hA; clear hA))
  exact bodyPost_ret (v := .tuple #[.agg (enP p0).toArray, .bool false]) (res_cell_tmp Try.results19 rfl rfl (HS.out.blk 0 rfl).range Try.underlying43 rfl (by kernel_rfl)) rfl ⟨rfl, HS.out.fr⟩
theorem vask_any (w : World) (c : Cfg) (hok : Ok c) (b : Nat) (who seq : Int) (v : V) (hB : Blk w b 152 (vwL (mapCells c) who seq v)) :
    Calls Try.prog 19 #[.pointer (some ⟨b, 0, none⟩)] w fun e w' => e = .returned (.tuple #[.agg (enP (Vw.ask c who v).1).toArray, .bool (Vw.ask c who v).2]) ∧ Fr [] w w' := by
  obtain ⟨held, step, block, a, val, s⟩ := v
  by_cases e1 : step = 1
  · exact vask_1 w c hok b who seq held step block a val s hB e1
  by_cases e2 : step = 2
  · exact vask_2 w c hok b who seq held step block a val s hB e2
  by_cases e3 : step = 3
  · exact vask_3 w c hok b who seq held step block a val s hB e3
  exact vask_0 w c hok b who seq held step block a val s hB ⟨e1, e2, e3⟩
end Go.Proofs.Ytccioehckfdjdaa
