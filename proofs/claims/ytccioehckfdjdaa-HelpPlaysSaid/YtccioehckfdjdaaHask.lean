/- The walk of help's Ask. -/
import Derived.Test.YtccioehckfdjdaaHw
set_option linter.unusedSimpArgs false
set_option linter.unusedVariables false
namespace Go.Proofs.Ytccioehckfdjdaa
open Go.RowKit Go.Tum Go.Tum.Y Go.Tum.Sc
theorem nameOf_id {b : Int} (h0 : 0 ≤ b) (h1 : b ≤ 100000) : H.nameOf b = b + 1 := by
  unfold H.nameOf
  rw [IntKind.wrap_u64, IntKind.wrap_u64]
  omega
set_option maxRecDepth 100000 in
set_option maxHeartbeats 4000000 in
theorem hask_0 (w : World) (c : Cfg) (hok : Ok c) (b : Nat) (who owner seq : Int) (la : Option Addr) (m lc : Nat) (L : List (Int × Int)) (n : Int) (kn : Nat) (held cv cc nx : Int) (hB : Blk w b 181 (H.hL (mapCells c) who owner seq (.slice la m lc) ⟨L, n, kn, held, cv, cc, nx⟩)) (hr : w.ownsRow 0 136 2 (.slice la m lc) m (flat enE L)) (hm : m = L.length) (hg : H.Good c ⟨L, n, kn, held, cv, cc, nx⟩) (hnx : nx = 0) :
    Calls Try.prog 65 #[.pointer (some ⟨b, 0, none⟩)] w fun e w' => e = .returned (.tuple #[.agg (enP (H.ask c who owner seq ⟨L, n, kn, held, cv, cc, nx⟩).1).toArray, .bool (H.ask c who owner seq ⟨L, n, kn, held, cv, cc, nx⟩).2]) ∧ Fr [] w w' := by
  have hak : H.ask c who owner seq ⟨L, n, kn, held, cv, cc, nx⟩ = (⟨0, at_ c 5 owner 0, 0, 0, 0, 0⟩, true) := by first | (subst hnx; simp [H.ask]) | simp [H.ask, hnx]
  rw [hak]; clear hak
  dsimp only
  have HA := Lib.hid (fun w => at_any w c hok 5 owner 0)
  have HWH := Lib.hid (fun p => what_all hok p)
  unfold Tells at HWH
  have HO := Lib.hid (fun w' (f : Fr [] w w') => hopen_any w' c hok b who owner seq (.slice la m lc) ⟨L, n, kn, held, cv, cc, nx⟩ (hB.fr f (by simp)))
  have hsz : (mapCells c).length = 24 := rfl
  unfold mapV at *
  generalize mapCells c = cs at *
  generalize at_ c 4 owner 0 = a4 at HO HA ⊢
  try generalize at_ c 5 owner 0 = av at HA ⊢
  have hS := (Sep.nil (Fr.refl [] w)).new 43 (enP p0)
  have HS := Lib.hid hS; clear hS
  have HB := Lib.hid (fun w' (f : Fr [] w w') => hB.fr f (by simp))
  have hbw := hB.lt
  have hmi : (m : Int) ≤ 100000 := by have := hg.2.2.2.1; dsimp only at this; omega
  clear hB hm hg
  subst hnx
  go_enter Try.func65, Try.ntmps65
  go_wp2_with fail
  refine (HO.out _ HS.out.fr).mono ?_
  rintro e w1 ⟨rfl, hf⟩
  have hS := (HS.out.fr0 hf).new 41 [.int .u64 1, .int .u64 seq]
  have HS := Lib.hid hS
  clear hS hf HO
  have hB := HB.out _ HS.out.fr
  have k24 := (hB.cell 24).trans (H.hL_at hsz who owner seq (.slice la m lc) ⟨L, n, kn, held, cv, cc, 0⟩).1
  have k25 := (hB.cell 25).trans (H.hL_at hsz who owner seq (.slice la m lc) ⟨L, n, kn, held, cv, cc, 0⟩).2.1
  have k26 := (hB.cell 26).trans (H.hL_at hsz who owner seq (.slice la m lc) ⟨L, n, kn, held, cv, cc, 0⟩).2.2.1
  have k27 := (hB.cell 27).trans (H.hL_at hsz who owner seq (.slice la m lc) ⟨L, n, kn, held, cv, cc, 0⟩).2.2.2.1
  have k29 := (hB.cell 29).trans (H.hL_at hsz who owner seq (.slice la m lc) ⟨L, n, kn, held, cv, cc, 0⟩).2.2.2.2.2.1
  have k31 := (hB.cell 31).trans (H.hL_at hsz who owner seq (.slice la m lc) ⟨L, n, kn, held, cv, cc, 0⟩).2.2.2.2.2.2.2.1
  have k32 := (hB.cell 32).trans (H.hL_at hsz who owner seq (.slice la m lc) ⟨L, n, kn, held, cv, cc, 0⟩).2.2.2.2.2.2.2.2.1
  have k33 := (hB.cell 33).trans (H.hL_at hsz who owner seq (.slice la m lc) ⟨L, n, kn, held, cv, cc, 0⟩).2.2.2.2.2.2.2.2.2
  dsimp only at k29 k31 k32 k33
  try rw [HLA.out] at k27
  have q0 := (HS.out.blk 0 rfl).cell 0
  have q1 := (HS.out.blk 0 rfl).cell 1
  have ql := (HS.out.blk 0 rfl).lt
  have hqn : ¬ w1.heap.size = w.heap.size := HS.out.ne 0 1 rfl rfl (by decide)
  simp only [List.getElem?_cons_zero, List.getElem?_cons_succ] at q0 q1
  have kl := hB.lt
  have hmd := hB.drew
  have hne : ¬ b = w.heap.size := by omega
  clear hB
  go_wp2_with fail
  refine wp_region_fr [(1, [0, 1, 2, 3, 4, 5, 6, 7]), (3, [8]), (0, [9]), (3, [10]), (0, [11])] [w.heap.size] (by kernel_rfl) (by kernel_rfl) ?_
  simp only [theOps, nthOp, List.map_cons, List.map_nil, Array.getD_eq_getD_getElem?, List.getElem?_toArray, List.getElem?_cons_succ, List.getElem?_cons_zero, Option.getD_some]
  refine wpSegs_soft ?_
  iterate 3 (first | go_big_quiet_step (fail) | quiet_step (fail))
  refine wpQuiet_load_mid 31 _ b 0 cs _ rfl rfl rfl (rangeAt_pre hmd (by simp <;> omega)) Try.underlying31 rfl (by rw [hsz]; kernel_rfl) ?_
  simp only [Act.put, List.setIfInBounds_toArray, List.set_cons_zero, List.set_cons_succ]
  repeat (first | go_big_quiet_step (fail) | quiet_step (fail))
  refine wpQuiet_nil ?_
  refine wpSegs_hard ?_
  go_wp2_with fail
  refine (HA.out _).mono ?_
  rintro e w2 ⟨rfl, hf⟩
  have HS := Lib.hid (HS.out.drew.fr0 hf)
  clear hf
  go_wp2_with fail
  repeat ((first | refine wpSegs_soft ?_ | refine wpSegs_pure ?_ | refine wpSegs_here ?_); (repeat (first | go_big_quiet_step (fail) | quiet_step (fail))); refine wpQuiet_nil ?_)
  refine wpSegs_hard ?_
  have honeP := enP_one ⟨0, av, 0, 0, 0, 0⟩
  refine wpList_store_sep HS.out 1 rfl (enP ⟨0, av, 0, 0, 0, 0⟩) 43 _ _ rfl rfl rfl rfl rfl (by kernel_rfl) honeP (fun wA hA _ => ?_)
  have HS := Lib.hid hA; clear hA
  go_wp2_with fail
  repeat ((first | refine wpSegs_soft ?_ | refine wpSegs_pure ?_ | refine wpSegs_here ?_); (repeat (first | go_big_quiet_step (fail) | quiet_step (fail))); refine wpQuiet_nil ?_)
  refine wpSegs_done ?_
  go_wp2_with fail
  exact bodyPost_ret (v := .tuple #[.agg (enP ⟨0, av, 0, 0, 0, 0⟩).toArray, .bool true]) (res_cell_tmp Try.results65 rfl rfl (HS.out.blk 1 rfl).range Try.underlying43 rfl (by kernel_rfl)) rfl ⟨rfl, HS.out.fr⟩
set_option maxRecDepth 100000 in
set_option maxHeartbeats 4000000 in
theorem hask_1 (w : World) (c : Cfg) (hok : Ok c) (b : Nat) (who owner seq : Int) (la : Option Addr) (m lc : Nat) (L : List (Int × Int)) (n : Int) (kn : Nat) (held cv cc nx : Int) (hB : Blk w b 181 (H.hL (mapCells c) who owner seq (.slice la m lc) ⟨L, n, kn, held, cv, cc, nx⟩)) (hr : w.ownsRow 0 136 2 (.slice la m lc) m (flat enE L)) (hm : m = L.length) (hg : H.Good c ⟨L, n, kn, held, cv, cc, nx⟩) (hnx : nx = 1) :
    Calls Try.prog 65 #[.pointer (some ⟨b, 0, none⟩)] w fun e w' => e = .returned (.tuple #[.agg (enP (H.ask c who owner seq ⟨L, n, kn, held, cv, cc, nx⟩).1).toArray, .bool (H.ask c who owner seq ⟨L, n, kn, held, cv, cc, nx⟩).2]) ∧ Fr [] w w' := by
  have hak : H.ask c who owner seq ⟨L, n, kn, held, cv, cc, nx⟩ = (⟨0, at_ c 6 owner L.length, 0, 0, 0, 0⟩, true) := by first | (subst hnx; simp [H.ask]) | simp [H.ask, hnx]
  rw [hak]; clear hak
  dsimp only
  rw [← hm]
  have HA := Lib.hid (fun w => at_any w c hok 6 owner m)
  have HWH := Lib.hid (fun p => what_all hok p)
  unfold Tells at HWH
  have HO := Lib.hid (fun w' (f : Fr [] w w') => hopen_any w' c hok b who owner seq (.slice la m lc) ⟨L, n, kn, held, cv, cc, nx⟩ (hB.fr f (by simp)))
  have hsz : (mapCells c).length = 24 := rfl
  unfold mapV at *
  generalize mapCells c = cs at *
  generalize at_ c 4 owner 0 = a4 at HO HA ⊢
  try generalize at_ c 6 owner m = av at HA ⊢
  have hS := (Sep.nil (Fr.refl [] w)).new 43 (enP p0)
  have HS := Lib.hid hS; clear hS
  have HB := Lib.hid (fun w' (f : Fr [] w w') => hB.fr f (by simp))
  have hbw := hB.lt
  have hmi : (m : Int) ≤ 100000 := by have := hg.2.2.2.1; dsimp only at this; omega
  clear hB hm hg
  subst hnx
  go_enter Try.func65, Try.ntmps65
  go_wp2_with fail
  refine (HO.out _ HS.out.fr).mono ?_
  rintro e w1 ⟨rfl, hf⟩
  have hS := (HS.out.fr0 hf).new 41 [.int .u64 1, .int .u64 seq]
  have HS := Lib.hid hS
  clear hS hf HO
  have hB := HB.out _ HS.out.fr
  have k24 := (hB.cell 24).trans (H.hL_at hsz who owner seq (.slice la m lc) ⟨L, n, kn, held, cv, cc, 1⟩).1
  have k25 := (hB.cell 25).trans (H.hL_at hsz who owner seq (.slice la m lc) ⟨L, n, kn, held, cv, cc, 1⟩).2.1
  have k26 := (hB.cell 26).trans (H.hL_at hsz who owner seq (.slice la m lc) ⟨L, n, kn, held, cv, cc, 1⟩).2.2.1
  have k27 := (hB.cell 27).trans (H.hL_at hsz who owner seq (.slice la m lc) ⟨L, n, kn, held, cv, cc, 1⟩).2.2.2.1
  have k29 := (hB.cell 29).trans (H.hL_at hsz who owner seq (.slice la m lc) ⟨L, n, kn, held, cv, cc, 1⟩).2.2.2.2.2.1
  have k31 := (hB.cell 31).trans (H.hL_at hsz who owner seq (.slice la m lc) ⟨L, n, kn, held, cv, cc, 1⟩).2.2.2.2.2.2.2.1
  have k32 := (hB.cell 32).trans (H.hL_at hsz who owner seq (.slice la m lc) ⟨L, n, kn, held, cv, cc, 1⟩).2.2.2.2.2.2.2.2.1
  have k33 := (hB.cell 33).trans (H.hL_at hsz who owner seq (.slice la m lc) ⟨L, n, kn, held, cv, cc, 1⟩).2.2.2.2.2.2.2.2.2
  dsimp only at k29 k31 k32 k33
  try rw [HLA.out] at k27
  have q0 := (HS.out.blk 0 rfl).cell 0
  have q1 := (HS.out.blk 0 rfl).cell 1
  have ql := (HS.out.blk 0 rfl).lt
  have hqn : ¬ w1.heap.size = w.heap.size := HS.out.ne 0 1 rfl rfl (by decide)
  simp only [List.getElem?_cons_zero, List.getElem?_cons_succ] at q0 q1
  have kl := hB.lt
  have hmd := hB.drew
  have hne : ¬ b = w.heap.size := by omega
  clear hB
  go_wp2_with fail
  refine wp_region_fr [(1, [0, 1, 2, 3, 4, 5, 6, 7, 8, 9, 10, 11, 12]), (3, [13]), (0, [14]), (3, [15]), (0, [16])] [w.heap.size] (by kernel_rfl) (by kernel_rfl) ?_
  simp only [theOps, nthOp, List.map_cons, List.map_nil, Array.getD_eq_getD_getElem?, List.getElem?_toArray, List.getElem?_cons_succ, List.getElem?_cons_zero, Option.getD_some]
  refine wpSegs_soft ?_
  iterate 3 (first | go_big_quiet_step (fail) | quiet_step (fail))
  refine wpQuiet_load_mid 31 _ b 0 cs _ rfl rfl rfl (rangeAt_pre hmd (by simp <;> omega)) Try.underlying31 rfl (by rw [hsz]; kernel_rfl) ?_
  simp only [Act.put, List.setIfInBounds_toArray, List.set_cons_zero, List.set_cons_succ]
  repeat (first | go_big_quiet_step (fail) | quiet_step (fail))
  refine wpQuiet_nil ?_
  refine wpSegs_hard ?_
  go_wp2_with fail
  refine (HA.out _).mono ?_
  rintro e w2 ⟨rfl, hf⟩
  have HS := Lib.hid (HS.out.drew.fr0 hf)
  clear hf
  go_wp2_with fail
  repeat ((first | refine wpSegs_soft ?_ | refine wpSegs_pure ?_ | refine wpSegs_here ?_); (repeat (first | go_big_quiet_step (fail) | quiet_step (fail))); refine wpQuiet_nil ?_)
  refine wpSegs_hard ?_
  have honeP := enP_one ⟨0, av, 0, 0, 0, 0⟩
  refine wpList_store_sep HS.out 1 rfl (enP ⟨0, av, 0, 0, 0, 0⟩) 43 _ _ rfl rfl rfl rfl rfl (by kernel_rfl) honeP (fun wA hA _ => ?_)
  have HS := Lib.hid hA; clear hA
  go_wp2_with fail
  repeat ((first | refine wpSegs_soft ?_ | refine wpSegs_pure ?_ | refine wpSegs_here ?_); (repeat (first | go_big_quiet_step (fail) | quiet_step (fail))); refine wpQuiet_nil ?_)
  refine wpSegs_done ?_
  go_wp2_with fail
  exact bodyPost_ret (v := .tuple #[.agg (enP ⟨0, av, 0, 0, 0, 0⟩).toArray, .bool true]) (res_cell_tmp Try.results65 rfl rfl (HS.out.blk 1 rfl).range Try.underlying43 rfl (by kernel_rfl)) rfl ⟨rfl, HS.out.fr⟩
set_option maxRecDepth 100000 in
set_option maxHeartbeats 4000000 in
theorem hask_2 (w : World) (c : Cfg) (hok : Ok c) (b : Nat) (who owner seq : Int) (la : Option Addr) (m lc : Nat) (L : List (Int × Int)) (n : Int) (kn : Nat) (held cv cc nx : Int) (hB : Blk w b 181 (H.hL (mapCells c) who owner seq (.slice la m lc) ⟨L, n, kn, held, cv, cc, nx⟩)) (hr : w.ownsRow 0 136 2 (.slice la m lc) m (flat enE L)) (hm : m = L.length) (hg : H.Good c ⟨L, n, kn, held, cv, cc, nx⟩) (hnx : nx = 2) :
    Calls Try.prog 65 #[.pointer (some ⟨b, 0, none⟩)] w fun e w' => e = .returned (.tuple #[.agg (enP (H.ask c who owner seq ⟨L, n, kn, held, cv, cc, nx⟩).1).toArray, .bool (H.ask c who owner seq ⟨L, n, kn, held, cv, cc, nx⟩).2]) ∧ Fr [] w w' := by
  have hak : H.ask c who owner seq ⟨L, n, kn, held, cv, cc, nx⟩ = (⟨0, at_ c 4 owner 0, 0, 0, 0, 0⟩, true) := by first | (subst hnx; simp [H.ask]) | simp [H.ask, hnx]
  rw [hak]; clear hak
  dsimp only
  have HA := Lib.hid (fun w => at_any w c hok 4 owner 0)
  have HWH := Lib.hid (fun p => what_all hok p)
  unfold Tells at HWH
  have HO := Lib.hid (fun w' (f : Fr [] w w') => hopen_any w' c hok b who owner seq (.slice la m lc) ⟨L, n, kn, held, cv, cc, nx⟩ (hB.fr f (by simp)))
  have hsz : (mapCells c).length = 24 := rfl
  unfold mapV at *
  generalize mapCells c = cs at *
  generalize at_ c 4 owner 0 = a4 at HO HA ⊢
  try generalize at_ c 4 owner 0 = av at HA ⊢
  have hS := (Sep.nil (Fr.refl [] w)).new 43 (enP p0)
  have HS := Lib.hid hS; clear hS
  have HB := Lib.hid (fun w' (f : Fr [] w w') => hB.fr f (by simp))
  have hbw := hB.lt
  have hmi : (m : Int) ≤ 100000 := by have := hg.2.2.2.1; dsimp only at this; omega
  clear hB hm hg
  subst hnx
  go_enter Try.func65, Try.ntmps65
  go_wp2_with fail
  refine (HO.out _ HS.out.fr).mono ?_
  rintro e w1 ⟨rfl, hf⟩
  have hS := (HS.out.fr0 hf).new 41 [.int .u64 1, .int .u64 seq]
  have HS := Lib.hid hS
  clear hS hf HO
  have hB := HB.out _ HS.out.fr
  have k24 := (hB.cell 24).trans (H.hL_at hsz who owner seq (.slice la m lc) ⟨L, n, kn, held, cv, cc, 2⟩).1
  have k25 := (hB.cell 25).trans (H.hL_at hsz who owner seq (.slice la m lc) ⟨L, n, kn, held, cv, cc, 2⟩).2.1
  have k26 := (hB.cell 26).trans (H.hL_at hsz who owner seq (.slice la m lc) ⟨L, n, kn, held, cv, cc, 2⟩).2.2.1
  have k27 := (hB.cell 27).trans (H.hL_at hsz who owner seq (.slice la m lc) ⟨L, n, kn, held, cv, cc, 2⟩).2.2.2.1
  have k29 := (hB.cell 29).trans (H.hL_at hsz who owner seq (.slice la m lc) ⟨L, n, kn, held, cv, cc, 2⟩).2.2.2.2.2.1
  have k31 := (hB.cell 31).trans (H.hL_at hsz who owner seq (.slice la m lc) ⟨L, n, kn, held, cv, cc, 2⟩).2.2.2.2.2.2.2.1
  have k32 := (hB.cell 32).trans (H.hL_at hsz who owner seq (.slice la m lc) ⟨L, n, kn, held, cv, cc, 2⟩).2.2.2.2.2.2.2.2.1
  have k33 := (hB.cell 33).trans (H.hL_at hsz who owner seq (.slice la m lc) ⟨L, n, kn, held, cv, cc, 2⟩).2.2.2.2.2.2.2.2.2
  dsimp only at k29 k31 k32 k33
  try rw [HLA.out] at k27
  have q0 := (HS.out.blk 0 rfl).cell 0
  have q1 := (HS.out.blk 0 rfl).cell 1
  have ql := (HS.out.blk 0 rfl).lt
  have hqn : ¬ w1.heap.size = w.heap.size := HS.out.ne 0 1 rfl rfl (by decide)
  simp only [List.getElem?_cons_zero, List.getElem?_cons_succ] at q0 q1
  have kl := hB.lt
  have hmd := hB.drew
  have hne : ¬ b = w.heap.size := by omega
  clear hB
  have honeP := enP_one ⟨0, a4, 0, 0, 0, 0⟩
  go_wp2_with (first | (refine wpList_store_sep HS.out 1 rfl (enP ⟨0, a4, 0, 0, 0, 0⟩) 43 _ _ rfl rfl rfl rfl rfl (by kernel_rfl) honeP (fun wA hA _ => ?_); have HS := Lib.hid hA; clear hA))
  exact bodyPost_ret (v := .tuple #[.agg (enP ⟨0, a4, 0, 0, 0, 0⟩).toArray, .bool true]) (res_cell_tmp Try.results65 rfl rfl (HS.out.blk 1 rfl).range Try.underlying43 rfl (by kernel_rfl)) rfl ⟨rfl, HS.out.fr⟩
set_option maxRecDepth 100000 in
set_option maxHeartbeats 4000000 in
theorem hask_4 (w : World) (c : Cfg) (hok : Ok c) (b : Nat) (who owner seq : Int) (la : Option Addr) (m lc : Nat) (L : List (Int × Int)) (n : Int) (kn : Nat) (held cv cc nx : Int) (hB : Blk w b 181 (H.hL (mapCells c) who owner seq (.slice la m lc) ⟨L, n, kn, held, cv, cc, nx⟩)) (hr : w.ownsRow 0 136 2 (.slice la m lc) m (flat enE L)) (hm : m = L.length) (hg : H.Good c ⟨L, n, kn, held, cv, cc, nx⟩) (hnx : nx = 4) :
    Calls Try.prog 65 #[.pointer (some ⟨b, 0, none⟩)] w fun e w' => e = .returned (.tuple #[.agg (enP (H.ask c who owner seq ⟨L, n, kn, held, cv, cc, nx⟩).1).toArray, .bool (H.ask c who owner seq ⟨L, n, kn, held, cv, cc, nx⟩).2]) ∧ Fr [] w w' := by
  have hak : H.ask c who owner seq ⟨L, n, kn, held, cv, cc, nx⟩ = (⟨0, at_ c 4 owner 0, 0, 0, 0, 0⟩, true) := by first | (subst hnx; simp [H.ask]) | simp [H.ask, hnx]
  rw [hak]; clear hak
  dsimp only
  have HA := Lib.hid (fun w => at_any w c hok 4 owner 0)
  have HWH := Lib.hid (fun p => what_all hok p)
  unfold Tells at HWH
  have HO := Lib.hid (fun w' (f : Fr [] w w') => hopen_any w' c hok b who owner seq (.slice la m lc) ⟨L, n, kn, held, cv, cc, nx⟩ (hB.fr f (by simp)))
  have hsz : (mapCells c).length = 24 := rfl
  unfold mapV at *
  generalize mapCells c = cs at *
  generalize at_ c 4 owner 0 = a4 at HO HA ⊢
  try generalize at_ c 4 owner 0 = av at HA ⊢
  have hS := (Sep.nil (Fr.refl [] w)).new 43 (enP p0)
  have HS := Lib.hid hS; clear hS
  have HB := Lib.hid (fun w' (f : Fr [] w w') => hB.fr f (by simp))
  have hbw := hB.lt
  have hmi : (m : Int) ≤ 100000 := by have := hg.2.2.2.1; dsimp only at this; omega
  clear hB hm hg
  subst hnx
  go_enter Try.func65, Try.ntmps65
  go_wp2_with fail
  refine (HO.out _ HS.out.fr).mono ?_
  rintro e w1 ⟨rfl, hf⟩
  have hS := (HS.out.fr0 hf).new 41 [.int .u64 1, .int .u64 seq]
  have HS := Lib.hid hS
  clear hS hf HO
  have hB := HB.out _ HS.out.fr
  have k24 := (hB.cell 24).trans (H.hL_at hsz who owner seq (.slice la m lc) ⟨L, n, kn, held, cv, cc, 4⟩).1
  have k25 := (hB.cell 25).trans (H.hL_at hsz who owner seq (.slice la m lc) ⟨L, n, kn, held, cv, cc, 4⟩).2.1
  have k26 := (hB.cell 26).trans (H.hL_at hsz who owner seq (.slice la m lc) ⟨L, n, kn, held, cv, cc, 4⟩).2.2.1
  have k27 := (hB.cell 27).trans (H.hL_at hsz who owner seq (.slice la m lc) ⟨L, n, kn, held, cv, cc, 4⟩).2.2.2.1
  have k29 := (hB.cell 29).trans (H.hL_at hsz who owner seq (.slice la m lc) ⟨L, n, kn, held, cv, cc, 4⟩).2.2.2.2.2.1
  have k31 := (hB.cell 31).trans (H.hL_at hsz who owner seq (.slice la m lc) ⟨L, n, kn, held, cv, cc, 4⟩).2.2.2.2.2.2.2.1
  have k32 := (hB.cell 32).trans (H.hL_at hsz who owner seq (.slice la m lc) ⟨L, n, kn, held, cv, cc, 4⟩).2.2.2.2.2.2.2.2.1
  have k33 := (hB.cell 33).trans (H.hL_at hsz who owner seq (.slice la m lc) ⟨L, n, kn, held, cv, cc, 4⟩).2.2.2.2.2.2.2.2.2
  dsimp only at k29 k31 k32 k33
  try rw [HLA.out] at k27
  have q0 := (HS.out.blk 0 rfl).cell 0
  have q1 := (HS.out.blk 0 rfl).cell 1
  have ql := (HS.out.blk 0 rfl).lt
  have hqn : ¬ w1.heap.size = w.heap.size := HS.out.ne 0 1 rfl rfl (by decide)
  simp only [List.getElem?_cons_zero, List.getElem?_cons_succ] at q0 q1
  have kl := hB.lt
  have hmd := hB.drew
  have hne : ¬ b = w.heap.size := by omega
  clear hB
  have honeP := enP_one ⟨0, a4, 0, 0, 0, 0⟩
  go_wp2_with (first | (refine wpList_store_sep HS.out 1 rfl (enP ⟨0, a4, 0, 0, 0, 0⟩) 43 _ _ rfl rfl rfl rfl rfl (by kernel_rfl) honeP (fun wA hA _ => ?_); have HS := Lib.hid hA; clear hA))
  exact bodyPost_ret (v := .tuple #[.agg (enP ⟨0, a4, 0, 0, 0, 0⟩).toArray, .bool true]) (res_cell_tmp Try.results65 rfl rfl (HS.out.blk 1 rfl).range Try.underlying43 rfl (by kernel_rfl)) rfl ⟨rfl, HS.out.fr⟩
set_option maxRecDepth 100000 in
set_option maxHeartbeats 4000000 in
theorem hask_7 (w : World) (c : Cfg) (hok : Ok c) (b : Nat) (who owner seq : Int) (la : Option Addr) (m lc : Nat) (L : List (Int × Int)) (n : Int) (kn : Nat) (held cv cc nx : Int) (hB : Blk w b 181 (H.hL (mapCells c) who owner seq (.slice la m lc) ⟨L, n, kn, held, cv, cc, nx⟩)) (hr : w.ownsRow 0 136 2 (.slice la m lc) m (flat enE L)) (hm : m = L.length) (hg : H.Good c ⟨L, n, kn, held, cv, cc, nx⟩) (hnx : nx = 7) :
    Calls Try.prog 65 #[.pointer (some ⟨b, 0, none⟩)] w fun e w' => e = .returned (.tuple #[.agg (enP (H.ask c who owner seq ⟨L, n, kn, held, cv, cc, nx⟩).1).toArray, .bool (H.ask c who owner seq ⟨L, n, kn, held, cv, cc, nx⟩).2]) ∧ Fr [] w w' := by
  have hak : H.ask c who owner seq ⟨L, n, kn, held, cv, cc, nx⟩ = (⟨2, at_ c 4 owner 0, 1, seq, 0, seq⟩, true) := by first | (subst hnx; simp [H.ask]) | simp [H.ask, hnx]
  rw [hak]; clear hak
  dsimp only
  have HA := Lib.hid (fun w => at_any w c hok 4 owner 0)
  have HWH := Lib.hid (fun p => what_all hok p)
  unfold Tells at HWH
  have HO := Lib.hid (fun w' (f : Fr [] w w') => hopen_any w' c hok b who owner seq (.slice la m lc) ⟨L, n, kn, held, cv, cc, nx⟩ (hB.fr f (by simp)))
  have hsz : (mapCells c).length = 24 := rfl
  unfold mapV at *
  generalize mapCells c = cs at *
  generalize at_ c 4 owner 0 = a4 at HO HA ⊢
  try generalize at_ c 4 owner 0 = av at HA ⊢
  have hS := (Sep.nil (Fr.refl [] w)).new 43 (enP p0)
  have HS := Lib.hid hS; clear hS
  have HB := Lib.hid (fun w' (f : Fr [] w w') => hB.fr f (by simp))
  have hbw := hB.lt
  have hmi : (m : Int) ≤ 100000 := by have := hg.2.2.2.1; dsimp only at this; omega
  clear hB hm hg
  subst hnx
  go_enter Try.func65, Try.ntmps65
  go_wp2_with fail
  refine (HO.out _ HS.out.fr).mono ?_
  rintro e w1 ⟨rfl, hf⟩
  have hS := (HS.out.fr0 hf).new 41 [.int .u64 1, .int .u64 seq]
  have HS := Lib.hid hS
  clear hS hf HO
  have hB := HB.out _ HS.out.fr
  have k24 := (hB.cell 24).trans (H.hL_at hsz who owner seq (.slice la m lc) ⟨L, n, kn, held, cv, cc, 7⟩).1
  have k25 := (hB.cell 25).trans (H.hL_at hsz who owner seq (.slice la m lc) ⟨L, n, kn, held, cv, cc, 7⟩).2.1
  have k26 := (hB.cell 26).trans (H.hL_at hsz who owner seq (.slice la m lc) ⟨L, n, kn, held, cv, cc, 7⟩).2.2.1
  have k27 := (hB.cell 27).trans (H.hL_at hsz who owner seq (.slice la m lc) ⟨L, n, kn, held, cv, cc, 7⟩).2.2.2.1
  have k29 := (hB.cell 29).trans (H.hL_at hsz who owner seq (.slice la m lc) ⟨L, n, kn, held, cv, cc, 7⟩).2.2.2.2.2.1
  have k31 := (hB.cell 31).trans (H.hL_at hsz who owner seq (.slice la m lc) ⟨L, n, kn, held, cv, cc, 7⟩).2.2.2.2.2.2.2.1
  have k32 := (hB.cell 32).trans (H.hL_at hsz who owner seq (.slice la m lc) ⟨L, n, kn, held, cv, cc, 7⟩).2.2.2.2.2.2.2.2.1
  have k33 := (hB.cell 33).trans (H.hL_at hsz who owner seq (.slice la m lc) ⟨L, n, kn, held, cv, cc, 7⟩).2.2.2.2.2.2.2.2.2
  dsimp only at k29 k31 k32 k33
  try rw [HLA.out] at k27
  have q0 := (HS.out.blk 0 rfl).cell 0
  have q1 := (HS.out.blk 0 rfl).cell 1
  have ql := (HS.out.blk 0 rfl).lt
  have hqn : ¬ w1.heap.size = w.heap.size := HS.out.ne 0 1 rfl rfl (by decide)
  simp only [List.getElem?_cons_zero, List.getElem?_cons_succ] at q0 q1
  have kl := hB.lt
  have hmd := hB.drew
  have hne : ¬ b = w.heap.size := by omega
  clear hB
  go_wp2_with fail
  refine wp_region_fr [(1, [0, 1, 2, 3, 4, 5, 6, 7]), (3, [8]), (0, [9])] [w.heap.size] (by kernel_rfl) (by kernel_rfl) ?_
  simp only [theOps, nthOp, List.map_cons, List.map_nil, Array.getD_eq_getD_getElem?, List.getElem?_toArray, List.getElem?_cons_succ, List.getElem?_cons_zero, Option.getD_some]
  repeat ((first | refine wpSegs_soft ?_ | refine wpSegs_pure ?_ | refine wpSegs_here ?_); (repeat (first | go_big_quiet_step (fail) | quiet_step (fail))); refine wpQuiet_nil ?_)
  refine wpSegs_hard ?_
  have HS := Lib.hid HS.out.drew
  have honeP := enP_one ⟨2, a4, 1, seq, 0, seq⟩
  refine wpList_store_sep HS.out 1 rfl (enP ⟨2, a4, 1, seq, 0, seq⟩) 43 _ _ rfl rfl rfl rfl rfl (by kernel_rfl) honeP (fun wA hA _ => ?_)
  have HS := Lib.hid hA; clear hA
  go_wp2_with fail
  repeat ((first | refine wpSegs_soft ?_ | refine wpSegs_pure ?_ | refine wpSegs_here ?_); (repeat (first | go_big_quiet_step (fail) | quiet_step (fail))); refine wpQuiet_nil ?_)
  refine wpSegs_done ?_
  go_wp2_with fail
  exact bodyPost_ret (v := .tuple #[.agg (enP ⟨2, a4, 1, seq, 0, seq⟩).toArray, .bool true]) (res_cell_tmp Try.results65 rfl rfl (HS.out.blk 1 rfl).range Try.underlying43 rfl (by kernel_rfl)) rfl ⟨rfl, HS.out.fr⟩
set_option maxRecDepth 100000 in
set_option maxHeartbeats 4000000 in
theorem hask_3 (w : World) (c : Cfg) (hok : Ok c) (b : Nat) (who owner seq : Int) (la : Option Addr) (m lc : Nat) (L : List (Int × Int)) (n : Int) (kn : Nat) (held cv cc nx : Int) (hB : Blk w b 181 (H.hL (mapCells c) who owner seq (.slice la m lc) ⟨L, n, kn, held, cv, cc, nx⟩)) (hr : w.ownsRow 0 136 2 (.slice la m lc) m (flat enE L)) (hm : m = L.length) (hg : H.Good c ⟨L, n, kn, held, cv, cc, nx⟩) (hnx : nx = 3) :
    Calls Try.prog 65 #[.pointer (some ⟨b, 0, none⟩)] w fun e w' => e = .returned (.tuple #[.agg (enP (H.ask c who owner seq ⟨L, n, kn, held, cv, cc, nx⟩).1).toArray, .bool (H.ask c who owner seq ⟨L, n, kn, held, cv, cc, nx⟩).2]) ∧ Fr [] w w' := by
  have hak : H.ask c who owner seq ⟨L, n, kn, held, cv, cc, nx⟩ = (⟨1, at_ c 3 who 0, 0, 0, H.nameOf (whA c (H.nth ⟨L, n, kn, held, cv, cc, nx⟩ (kn : Int).toNat).1).2.1, 0⟩, true) := by first | (subst hnx; simp [H.ask]) | simp [H.ask, hnx]
  rw [hak]; clear hak
  have hkm := hg.2.2.2.2.2 (by dsimp only; omega)
  dsimp only at hkm
  have hknm : kn < L.length := by omega
  obtain ⟨g, hla⟩ : ∃ g, la = some ⟨g, 0, none⟩ := by
    rcases ownsRow_form hr with ⟨_, e⟩ | ⟨g, cap, e, _⟩
    · omega
    · simp only [Value.slice.injEq] at e; exact ⟨g, e.1⟩
  have HLA := Lib.hid hla
  rw [hla] at hr
  clear hla
  have HR : Hid (∀ w', Fr [] w w' → w'.cell? ⟨g, kn * 2, none⟩ = some (.int .i64 (L[kn]'hknm).1) ∧ w'.cell? ⟨g, kn * 2 + 1, none⟩ = some (.int .u64 (L[kn]'hknm).2)) := fun w' f =>
    ⟨f.cell (ownsRow_cell hr _ _ (by have := flat_get enE_len L kn hknm 0 (by decide); simpa [enE] using this)) (by simp), f.cell (ownsRow_cell hr _ _ (by have := flat_get enE_len L kn hknm 1 (by decide); simpa [enE] using this)) (by simp)⟩
  have hgw := (World.ownsRow.lt hr g rfl).2
  have hnth : H.nth ⟨L, n, kn, held, cv, cc, nx⟩ (kn : Int).toNat = L[kn]'hknm := by
    unfold H.nth
    simp [List.getD_eq_getElem?_getD, List.getElem?_eq_getElem hknm]
  have hkmi : (kn : Int) < (m : Int) := by omega
  have hgne : ¬ g = w.heap.size := by omega
  have HA := Lib.hid (fun w => at_any w c hok 3 who 0)
  have HWH := Lib.hid (fun p => what_all hok p)
  unfold Tells at HWH
  have HO := Lib.hid (fun w' (f : Fr [] w w') => hopen_any w' c hok b who owner seq (.slice la m lc) ⟨L, n, kn, held, cv, cc, nx⟩ (hB.fr f (by simp)))
  have hsz : (mapCells c).length = 24 := rfl
  unfold mapV at *
  generalize mapCells c = cs at *
  generalize at_ c 4 owner 0 = a4 at HO HA ⊢
  try generalize at_ c 3 who 0 = av at HA ⊢
  have hS := (Sep.nil (Fr.refl [] w)).new 43 (enP p0)
  have HS := Lib.hid hS; clear hS
  have HB := Lib.hid (fun w' (f : Fr [] w w') => hB.fr f (by simp))
  have hbw := hB.lt
  have hmi : (m : Int) ≤ 100000 := by have := hg.2.2.2.1; dsimp only at this; omega
  clear hB hm hg
  rw [hnth]
  generalize L[kn]'hknm = E at *
  obtain ⟨E1, E2⟩ := E
  dsimp only at HR hnth
  dsimp only
  have HW := Lib.hid (HWH.out E1)
  have hwb := whA_bd2 hok E1
  generalize whA c E1 = wa at HW hwb ⊢
  obtain ⟨wa1, wa2, wa3⟩ := wa
  dsimp only at HW hwb ⊢
  rw [nameOf_id hwb.1 (by omega)]
  subst hnx
  go_enter Try.func65, Try.ntmps65
  go_wp2_with fail
  refine (HO.out _ HS.out.fr).mono ?_
  rintro e w1 ⟨rfl, hf⟩
  have hS := (HS.out.fr0 hf).new 41 [.int .u64 1, .int .u64 seq]
  have HS := Lib.hid hS
  clear hS hf HO
  have hB := HB.out _ HS.out.fr
  have k24 := (hB.cell 24).trans (H.hL_at hsz who owner seq (.slice la m lc) ⟨L, n, kn, held, cv, cc, 3⟩).1
  have k25 := (hB.cell 25).trans (H.hL_at hsz who owner seq (.slice la m lc) ⟨L, n, kn, held, cv, cc, 3⟩).2.1
  have k26 := (hB.cell 26).trans (H.hL_at hsz who owner seq (.slice la m lc) ⟨L, n, kn, held, cv, cc, 3⟩).2.2.1
  have k27 := (hB.cell 27).trans (H.hL_at hsz who owner seq (.slice la m lc) ⟨L, n, kn, held, cv, cc, 3⟩).2.2.2.1
  have k29 := (hB.cell 29).trans (H.hL_at hsz who owner seq (.slice la m lc) ⟨L, n, kn, held, cv, cc, 3⟩).2.2.2.2.2.1
  have k31 := (hB.cell 31).trans (H.hL_at hsz who owner seq (.slice la m lc) ⟨L, n, kn, held, cv, cc, 3⟩).2.2.2.2.2.2.2.1
  have k32 := (hB.cell 32).trans (H.hL_at hsz who owner seq (.slice la m lc) ⟨L, n, kn, held, cv, cc, 3⟩).2.2.2.2.2.2.2.2.1
  have k33 := (hB.cell 33).trans (H.hL_at hsz who owner seq (.slice la m lc) ⟨L, n, kn, held, cv, cc, 3⟩).2.2.2.2.2.2.2.2.2
  dsimp only at k29 k31 k32 k33
  try rw [HLA.out] at k27
  have q0 := (HS.out.blk 0 rfl).cell 0
  have q1 := (HS.out.blk 0 rfl).cell 1
  have ql := (HS.out.blk 0 rfl).lt
  have hqn : ¬ w1.heap.size = w.heap.size := HS.out.ne 0 1 rfl rfl (by decide)
  simp only [List.getElem?_cons_zero, List.getElem?_cons_succ] at q0 q1
  have kl := hB.lt
  have hmd := hB.drew
  have hne : ¬ b = w.heap.size := by omega
  clear hB
  obtain ⟨y0, y1⟩ := HR.out _ HS.out.fr
  have hgl := Nat.lt_of_lt_of_le hgw HS.out.fr.size
  go_wp2_with fail
  refine wp_region_fr [(1, [0, 1, 2, 3, 4, 5, 6, 7, 8, 9, 10, 11, 12, 13, 14]), (3, [15]), (0, [16, 17, 18, 19, 20, 21, 22])] [] (by kernel_rfl) (by kernel_rfl) ?_
  simp only [theOps, nthOp, List.map_cons, List.map_nil, Array.getD_eq_getD_getElem?, List.getElem?_toArray, List.getElem?_cons_succ, List.getElem?_cons_zero, Option.getD_some]
  refine wpSegs_soft ?_
  iterate 3 (first | go_big_quiet_step (fail) | quiet_step (fail))
  refine wpQuiet_load_mid 31 _ b 0 cs _ rfl rfl rfl (rangeAt_pre hmd (by simp <;> omega)) Try.underlying31 rfl (by rw [hsz]; kernel_rfl) ?_
  simp only [Act.put, List.setIfInBounds_toArray, List.set_cons_zero, List.set_cons_succ]
  repeat (first | go_big_quiet_step (fail) | quiet_step (fail))
  refine wpQuiet_nil ?_
  refine wpSegs_hard ?_
  go_wp2_with fail
  refine (HW.out _).mono ?_
  rintro e w2 ⟨rfl, hf⟩
  have HS := Lib.hid (HS.out.drew.fr0 hf)
  clear hf
  go_wp2_with fail
  repeat ((first | refine wpSegs_soft ?_ | refine wpSegs_pure ?_ | refine wpSegs_here ?_); (repeat (first | go_big_quiet_step (fail) | quiet_step (fail))); refine wpQuiet_nil ?_)
  refine wpSegs_done ?_
  clear y0 y1 hgl k24 k25 k26 k27 k29 k31 k32 k33 q0 q1 ql hqn kl hmd hne
  have hB := HB.out _ HS.out.fr
  have k24 := (hB.cell 24).trans (H.hL_at hsz who owner seq (.slice la m lc) ⟨L, n, kn, held, cv, cc, 3⟩).1
  have k25 := (hB.cell 25).trans (H.hL_at hsz who owner seq (.slice la m lc) ⟨L, n, kn, held, cv, cc, 3⟩).2.1
  have k26 := (hB.cell 26).trans (H.hL_at hsz who owner seq (.slice la m lc) ⟨L, n, kn, held, cv, cc, 3⟩).2.2.1
  have k27 := (hB.cell 27).trans (H.hL_at hsz who owner seq (.slice la m lc) ⟨L, n, kn, held, cv, cc, 3⟩).2.2.2.1
  have k29 := (hB.cell 29).trans (H.hL_at hsz who owner seq (.slice la m lc) ⟨L, n, kn, held, cv, cc, 3⟩).2.2.2.2.2.1
  have k31 := (hB.cell 31).trans (H.hL_at hsz who owner seq (.slice la m lc) ⟨L, n, kn, held, cv, cc, 3⟩).2.2.2.2.2.2.2.1
  have k32 := (hB.cell 32).trans (H.hL_at hsz who owner seq (.slice la m lc) ⟨L, n, kn, held, cv, cc, 3⟩).2.2.2.2.2.2.2.2.1
  have k33 := (hB.cell 33).trans (H.hL_at hsz who owner seq (.slice la m lc) ⟨L, n, kn, held, cv, cc, 3⟩).2.2.2.2.2.2.2.2.2
  dsimp only at k29 k31 k32 k33
  try rw [HLA.out] at k27
  have q0 := (HS.out.blk 0 rfl).cell 0
  have q1 := (HS.out.blk 0 rfl).cell 1
  have ql := (HS.out.blk 0 rfl).lt
  have hqn : ¬ w1.heap.size = w.heap.size := HS.out.ne 0 1 rfl rfl (by decide)
  simp only [List.getElem?_cons_zero, List.getElem?_cons_succ] at q0 q1
  have kl := hB.lt
  have hmd := hB.drew
  have hne : ¬ b = w.heap.size := by omega
  clear hB
  go_wp2_with fail
  refine wp_region_fr [(1, [0, 1, 2, 3, 4, 5, 6, 7]), (0, [9, 10, 11, 12]), (3, [8]), (0, [13]), (3, [14]), (0, [15])] [w.heap.size] (by kernel_rfl) (by kernel_rfl) ?_
  simp only [theOps, nthOp, List.map_cons, List.map_nil, Array.getD_eq_getD_getElem?, List.getElem?_toArray, List.getElem?_cons_succ, List.getElem?_cons_zero, Option.getD_some]
  refine wpSegs_soft ?_
  iterate 3 (first | go_big_quiet_step (fail) | quiet_step (fail))
  refine wpQuiet_load_mid 31 _ b 0 cs _ rfl rfl rfl (rangeAt_pre hmd (by simp <;> omega)) Try.underlying31 rfl (by rw [hsz]; kernel_rfl) ?_
  simp only [Act.put, List.setIfInBounds_toArray, List.set_cons_zero, List.set_cons_succ]
  repeat (first | go_big_quiet_step (fail) | quiet_step (fail))
  refine wpQuiet_nil ?_
  repeat ((first | refine wpSegs_soft ?_ | refine wpSegs_pure ?_ | refine wpSegs_here ?_); (repeat (first | go_big_quiet_step (fail) | quiet_step (fail))); refine wpQuiet_nil ?_)
  refine wpSegs_hard ?_
  go_wp2_with fail
  refine (HA.out _).mono ?_
  rintro e w3 ⟨rfl, hf⟩
  have HS := Lib.hid (HS.out.drew.fr0 hf)
  clear hf
  go_wp2_with fail
  repeat ((first | refine wpSegs_soft ?_ | refine wpSegs_pure ?_ | refine wpSegs_here ?_); (repeat (first | go_big_quiet_step (fail) | quiet_step (fail))); refine wpQuiet_nil ?_)
  refine wpSegs_hard ?_
  have honeP := enP_one ⟨1, av, 0, 0, wa2 + 1, 0⟩
  refine wpList_store_sep HS.out 1 rfl (enP ⟨1, av, 0, 0, wa2 + 1, 0⟩) 43 _ _ rfl rfl rfl rfl rfl (by kernel_rfl) honeP (fun wA hA _ => ?_)
  have HS := Lib.hid hA; clear hA
  go_wp2_with fail
  repeat ((first | refine wpSegs_soft ?_ | refine wpSegs_pure ?_ | refine wpSegs_here ?_); (repeat (first | go_big_quiet_step (fail) | quiet_step (fail))); refine wpQuiet_nil ?_)
  refine wpSegs_done ?_
  go_wp2_with fail
  exact bodyPost_ret (v := .tuple #[.agg (enP ⟨1, av, 0, 0, wa2 + 1, 0⟩).toArray, .bool true]) (res_cell_tmp Try.results65 rfl rfl (HS.out.blk 1 rfl).range Try.underlying43 rfl (by kernel_rfl)) rfl ⟨rfl, HS.out.fr⟩
set_option maxRecDepth 100000 in
set_option maxHeartbeats 4000000 in
theorem hask_5 (w : World) (c : Cfg) (hok : Ok c) (b : Nat) (who owner seq : Int) (la : Option Addr) (m lc : Nat) (L : List (Int × Int)) (n : Int) (kn : Nat) (held cv cc nx : Int) (hB : Blk w b 181 (H.hL (mapCells c) who owner seq (.slice la m lc) ⟨L, n, kn, held, cv, cc, nx⟩)) (hr : w.ownsRow 0 136 2 (.slice la m lc) m (flat enE L)) (hm : m = L.length) (hg : H.Good c ⟨L, n, kn, held, cv, cc, nx⟩) (hnx : nx = 5) :
    Calls Try.prog 65 #[.pointer (some ⟨b, 0, none⟩)] w fun e w' => e = .returned (.tuple #[.agg (enP (H.ask c who owner seq ⟨L, n, kn, held, cv, cc, nx⟩).1).toArray, .bool (H.ask c who owner seq ⟨L, n, kn, held, cv, cc, nx⟩).2]) ∧ Fr [] w w' := by
  have hak : H.ask c who owner seq ⟨L, n, kn, held, cv, cc, nx⟩ = (⟨0, (H.nth ⟨L, n, kn, held, cv, cc, nx⟩ (kn : Int).toNat).1, 0, 0, 0, 0⟩, true) := by first | (subst hnx; simp [H.ask]) | simp [H.ask, hnx]
  rw [hak]; clear hak
  have hkm := hg.2.2.2.2.2 (by dsimp only; omega)
  dsimp only at hkm
  have hknm : kn < L.length := by omega
  obtain ⟨g, hla⟩ : ∃ g, la = some ⟨g, 0, none⟩ := by
    rcases ownsRow_form hr with ⟨_, e⟩ | ⟨g, cap, e, _⟩
    · omega
    · simp only [Value.slice.injEq] at e; exact ⟨g, e.1⟩
  have HLA := Lib.hid hla
  rw [hla] at hr
  clear hla
  have HR : Hid (∀ w', Fr [] w w' → w'.cell? ⟨g, kn * 2, none⟩ = some (.int .i64 (L[kn]'hknm).1) ∧ w'.cell? ⟨g, kn * 2 + 1, none⟩ = some (.int .u64 (L[kn]'hknm).2)) := fun w' f =>
    ⟨f.cell (ownsRow_cell hr _ _ (by have := flat_get enE_len L kn hknm 0 (by decide); simpa [enE] using this)) (by simp), f.cell (ownsRow_cell hr _ _ (by have := flat_get enE_len L kn hknm 1 (by decide); simpa [enE] using this)) (by simp)⟩
  have hgw := (World.ownsRow.lt hr g rfl).2
  have hnth : H.nth ⟨L, n, kn, held, cv, cc, nx⟩ (kn : Int).toNat = L[kn]'hknm := by
    unfold H.nth
    simp [List.getD_eq_getElem?_getD, List.getElem?_eq_getElem hknm]
  have hkmi : (kn : Int) < (m : Int) := by omega
  have hgne : ¬ g = w.heap.size := by omega
  have HA := Lib.hid (fun w => at_any w c hok 4 owner 0)
  have HWH := Lib.hid (fun p => what_all hok p)
  unfold Tells at HWH
  have HO := Lib.hid (fun w' (f : Fr [] w w') => hopen_any w' c hok b who owner seq (.slice la m lc) ⟨L, n, kn, held, cv, cc, nx⟩ (hB.fr f (by simp)))
  have hsz : (mapCells c).length = 24 := rfl
  unfold mapV at *
  generalize mapCells c = cs at *
  generalize at_ c 4 owner 0 = a4 at HO HA ⊢
  try generalize at_ c 4 owner 0 = av at HA ⊢
  have hS := (Sep.nil (Fr.refl [] w)).new 43 (enP p0)
  have HS := Lib.hid hS; clear hS
  have HB := Lib.hid (fun w' (f : Fr [] w w') => hB.fr f (by simp))
  have hbw := hB.lt
  have hmi : (m : Int) ≤ 100000 := by have := hg.2.2.2.1; dsimp only at this; omega
  clear hB hm hg
  rw [hnth]
  generalize L[kn]'hknm = E at *
  obtain ⟨E1, E2⟩ := E
  dsimp only at HR hnth
  dsimp only
  subst hnx
  go_enter Try.func65, Try.ntmps65
  go_wp2_with fail
  refine (HO.out _ HS.out.fr).mono ?_
  rintro e w1 ⟨rfl, hf⟩
  have hS := (HS.out.fr0 hf).new 41 [.int .u64 1, .int .u64 seq]
  have HS := Lib.hid hS
  clear hS hf HO
  have hB := HB.out _ HS.out.fr
  have k24 := (hB.cell 24).trans (H.hL_at hsz who owner seq (.slice la m lc) ⟨L, n, kn, held, cv, cc, 5⟩).1
  have k25 := (hB.cell 25).trans (H.hL_at hsz who owner seq (.slice la m lc) ⟨L, n, kn, held, cv, cc, 5⟩).2.1
  have k26 := (hB.cell 26).trans (H.hL_at hsz who owner seq (.slice la m lc) ⟨L, n, kn, held, cv, cc, 5⟩).2.2.1
  have k27 := (hB.cell 27).trans (H.hL_at hsz who owner seq (.slice la m lc) ⟨L, n, kn, held, cv, cc, 5⟩).2.2.2.1
  have k29 := (hB.cell 29).trans (H.hL_at hsz who owner seq (.slice la m lc) ⟨L, n, kn, held, cv, cc, 5⟩).2.2.2.2.2.1
  have k31 := (hB.cell 31).trans (H.hL_at hsz who owner seq (.slice la m lc) ⟨L, n, kn, held, cv, cc, 5⟩).2.2.2.2.2.2.2.1
  have k32 := (hB.cell 32).trans (H.hL_at hsz who owner seq (.slice la m lc) ⟨L, n, kn, held, cv, cc, 5⟩).2.2.2.2.2.2.2.2.1
  have k33 := (hB.cell 33).trans (H.hL_at hsz who owner seq (.slice la m lc) ⟨L, n, kn, held, cv, cc, 5⟩).2.2.2.2.2.2.2.2.2
  dsimp only at k29 k31 k32 k33
  try rw [HLA.out] at k27
  have q0 := (HS.out.blk 0 rfl).cell 0
  have q1 := (HS.out.blk 0 rfl).cell 1
  have ql := (HS.out.blk 0 rfl).lt
  have hqn : ¬ w1.heap.size = w.heap.size := HS.out.ne 0 1 rfl rfl (by decide)
  simp only [List.getElem?_cons_zero, List.getElem?_cons_succ] at q0 q1
  have kl := hB.lt
  have hmd := hB.drew
  have hne : ¬ b = w.heap.size := by omega
  clear hB
  obtain ⟨y0, y1⟩ := HR.out _ HS.out.fr
  have hgl := Nat.lt_of_lt_of_le hgw HS.out.fr.size
  go_wp2_with fail
  refine wp_region_fr [(1, [0, 1, 2, 3, 4, 5, 6, 7, 8, 9, 10, 11]), (3, [12]), (0, [13])] [w.heap.size] (by kernel_rfl) (by kernel_rfl) ?_
  simp only [theOps, nthOp, List.map_cons, List.map_nil, Array.getD_eq_getD_getElem?, List.getElem?_toArray, List.getElem?_cons_succ, List.getElem?_cons_zero, Option.getD_some]
  repeat ((first | refine wpSegs_soft ?_ | refine wpSegs_pure ?_ | refine wpSegs_here ?_); (repeat (first | go_big_quiet_step (fail) | quiet_step (fail))); refine wpQuiet_nil ?_)
  refine wpSegs_hard ?_
  have HS := Lib.hid HS.out.drew
  have honeP := enP_one ⟨0, E1, 0, 0, 0, 0⟩
  refine wpList_store_sep HS.out 1 rfl (enP ⟨0, E1, 0, 0, 0, 0⟩) 43 _ _ rfl rfl rfl rfl rfl (by kernel_rfl) honeP (fun wA hA _ => ?_)
  have HS := Lib.hid hA; clear hA
  go_wp2_with fail
  repeat ((first | refine wpSegs_soft ?_ | refine wpSegs_pure ?_ | refine wpSegs_here ?_); (repeat (first | go_big_quiet_step (fail) | quiet_step (fail))); refine wpQuiet_nil ?_)
  refine wpSegs_done ?_
  go_wp2_with fail
  exact bodyPost_ret (v := .tuple #[.agg (enP ⟨0, E1, 0, 0, 0, 0⟩).toArray, .bool true]) (res_cell_tmp Try.results65 rfl rfl (HS.out.blk 1 rfl).range Try.underlying43 rfl (by kernel_rfl)) rfl ⟨rfl, HS.out.fr⟩
set_option maxRecDepth 100000 in
set_option maxHeartbeats 4000000 in
theorem hask_6 (w : World) (c : Cfg) (hok : Ok c) (b : Nat) (who owner seq : Int) (la : Option Addr) (m lc : Nat) (L : List (Int × Int)) (n : Int) (kn : Nat) (held cv cc nx : Int) (hB : Blk w b 181 (H.hL (mapCells c) who owner seq (.slice la m lc) ⟨L, n, kn, held, cv, cc, nx⟩)) (hr : w.ownsRow 0 136 2 (.slice la m lc) m (flat enE L)) (hm : m = L.length) (hg : H.Good c ⟨L, n, kn, held, cv, cc, nx⟩) (hnx : nx = 6) :
    Calls Try.prog 65 #[.pointer (some ⟨b, 0, none⟩)] w fun e w' => e = .returned (.tuple #[.agg (enP (H.ask c who owner seq ⟨L, n, kn, held, cv, cc, nx⟩).1).toArray, .bool (H.ask c who owner seq ⟨L, n, kn, held, cv, cc, nx⟩).2]) ∧ Fr [] w w' := by
  have hak : H.ask c who owner seq ⟨L, n, kn, held, cv, cc, nx⟩ = (⟨2, (H.nth ⟨L, n, kn, held, cv, cc, nx⟩ (kn : Int).toNat).1, cv, cc, (H.nth ⟨L, n, kn, held, cv, cc, nx⟩ (kn : Int).toNat).2, seq⟩, true) := by first | (subst hnx; simp [H.ask]) | simp [H.ask, hnx]
  rw [hak]; clear hak
  have hkm := hg.2.2.2.2.2 (by dsimp only; omega)
  dsimp only at hkm
  have hknm : kn < L.length := by omega
  obtain ⟨g, hla⟩ : ∃ g, la = some ⟨g, 0, none⟩ := by
    rcases ownsRow_form hr with ⟨_, e⟩ | ⟨g, cap, e, _⟩
    · omega
    · simp only [Value.slice.injEq] at e; exact ⟨g, e.1⟩
  have HLA := Lib.hid hla
  rw [hla] at hr
  clear hla
  have HR : Hid (∀ w', Fr [] w w' → w'.cell? ⟨g, kn * 2, none⟩ = some (.int .i64 (L[kn]'hknm).1) ∧ w'.cell? ⟨g, kn * 2 + 1, none⟩ = some (.int .u64 (L[kn]'hknm).2)) := fun w' f =>
    ⟨f.cell (ownsRow_cell hr _ _ (by have := flat_get enE_len L kn hknm 0 (by decide); simpa [enE] using this)) (by simp), f.cell (ownsRow_cell hr _ _ (by have := flat_get enE_len L kn hknm 1 (by decide); simpa [enE] using this)) (by simp)⟩
  have hgw := (World.ownsRow.lt hr g rfl).2
  have hnth : H.nth ⟨L, n, kn, held, cv, cc, nx⟩ (kn : Int).toNat = L[kn]'hknm := by
    unfold H.nth
    simp [List.getD_eq_getElem?_getD, List.getElem?_eq_getElem hknm]
  have hkmi : (kn : Int) < (m : Int) := by omega
  have hgne : ¬ g = w.heap.size := by omega
  have HA := Lib.hid (fun w => at_any w c hok 4 owner 0)
  have HWH := Lib.hid (fun p => what_all hok p)
  unfold Tells at HWH
  have HO := Lib.hid (fun w' (f : Fr [] w w') => hopen_any w' c hok b who owner seq (.slice la m lc) ⟨L, n, kn, held, cv, cc, nx⟩ (hB.fr f (by simp)))
  have hsz : (mapCells c).length = 24 := rfl
  unfold mapV at *
  generalize mapCells c = cs at *
  generalize at_ c 4 owner 0 = a4 at HO HA ⊢
  try generalize at_ c 4 owner 0 = av at HA ⊢
  have hS := (Sep.nil (Fr.refl [] w)).new 43 (enP p0)
  have HS := Lib.hid hS; clear hS
  have HB := Lib.hid (fun w' (f : Fr [] w w') => hB.fr f (by simp))
  have hbw := hB.lt
  have hmi : (m : Int) ≤ 100000 := by have := hg.2.2.2.1; dsimp only at this; omega
  clear hB hm hg
  rw [hnth]
  generalize L[kn]'hknm = E at *
  obtain ⟨E1, E2⟩ := E
  dsimp only at HR hnth
  dsimp only
  subst hnx
  go_enter Try.func65, Try.ntmps65
  go_wp2_with fail
  refine (HO.out _ HS.out.fr).mono ?_
  rintro e w1 ⟨rfl, hf⟩
  have hS := (HS.out.fr0 hf).new 41 [.int .u64 1, .int .u64 seq]
  have HS := Lib.hid hS
  clear hS hf HO
  have hB := HB.out _ HS.out.fr
  have k24 := (hB.cell 24).trans (H.hL_at hsz who owner seq (.slice la m lc) ⟨L, n, kn, held, cv, cc, 6⟩).1
  have k25 := (hB.cell 25).trans (H.hL_at hsz who owner seq (.slice la m lc) ⟨L, n, kn, held, cv, cc, 6⟩).2.1
  have k26 := (hB.cell 26).trans (H.hL_at hsz who owner seq (.slice la m lc) ⟨L, n, kn, held, cv, cc, 6⟩).2.2.1
  have k27 := (hB.cell 27).trans (H.hL_at hsz who owner seq (.slice la m lc) ⟨L, n, kn, held, cv, cc, 6⟩).2.2.2.1
  have k29 := (hB.cell 29).trans (H.hL_at hsz who owner seq (.slice la m lc) ⟨L, n, kn, held, cv, cc, 6⟩).2.2.2.2.2.1
  have k31 := (hB.cell 31).trans (H.hL_at hsz who owner seq (.slice la m lc) ⟨L, n, kn, held, cv, cc, 6⟩).2.2.2.2.2.2.2.1
  have k32 := (hB.cell 32).trans (H.hL_at hsz who owner seq (.slice la m lc) ⟨L, n, kn, held, cv, cc, 6⟩).2.2.2.2.2.2.2.2.1
  have k33 := (hB.cell 33).trans (H.hL_at hsz who owner seq (.slice la m lc) ⟨L, n, kn, held, cv, cc, 6⟩).2.2.2.2.2.2.2.2.2
  dsimp only at k29 k31 k32 k33
  try rw [HLA.out] at k27
  have q0 := (HS.out.blk 0 rfl).cell 0
  have q1 := (HS.out.blk 0 rfl).cell 1
  have ql := (HS.out.blk 0 rfl).lt
  have hqn : ¬ w1.heap.size = w.heap.size := HS.out.ne 0 1 rfl rfl (by decide)
  simp only [List.getElem?_cons_zero, List.getElem?_cons_succ] at q0 q1
  have kl := hB.lt
  have hmd := hB.drew
  have hne : ¬ b = w.heap.size := by omega
  clear hB
  obtain ⟨y0, y1⟩ := HR.out _ HS.out.fr
  have hgl := Nat.lt_of_lt_of_le hgw HS.out.fr.size
  go_wp2_with fail
  refine wp_region_fr [(1, [0, 1, 2, 3, 4, 5, 6, 7, 8, 9, 10, 11, 12, 13, 14, 15, 16, 17, 18, 19, 20, 21, 22, 23, 24, 25, 26, 27, 28, 29, 30, 31]), (3, [32]), (0, [33])] [w.heap.size] (by kernel_rfl) (by kernel_rfl) ?_
  simp only [theOps, nthOp, List.map_cons, List.map_nil, Array.getD_eq_getD_getElem?, List.getElem?_toArray, List.getElem?_cons_succ, List.getElem?_cons_zero, Option.getD_some]
  repeat ((first | refine wpSegs_soft ?_ | refine wpSegs_pure ?_ | refine wpSegs_here ?_); (repeat (first | go_big_quiet_step (fail) | quiet_step (fail))); refine wpQuiet_nil ?_)
  refine wpSegs_hard ?_
  have HS := Lib.hid HS.out.drew
  have honeP := enP_one ⟨2, E1, cv, cc, E2, seq⟩
  refine wpList_store_sep HS.out 1 rfl (enP ⟨2, E1, cv, cc, E2, seq⟩) 43 _ _ rfl rfl rfl rfl rfl (by kernel_rfl) honeP (fun wA hA _ => ?_)
  have HS := Lib.hid hA; clear hA
  go_wp2_with fail
  repeat ((first | refine wpSegs_soft ?_ | refine wpSegs_pure ?_ | refine wpSegs_here ?_); (repeat (first | go_big_quiet_step (fail) | quiet_step (fail))); refine wpQuiet_nil ?_)
  refine wpSegs_done ?_
  go_wp2_with fail
  exact bodyPost_ret (v := .tuple #[.agg (enP ⟨2, E1, cv, cc, E2, seq⟩).toArray, .bool true]) (res_cell_tmp Try.results65 rfl rfl (HS.out.blk 1 rfl).range Try.underlying43 rfl (by kernel_rfl)) rfl ⟨rfl, HS.out.fr⟩
set_option maxRecDepth 100000 in
set_option maxHeartbeats 4000000 in
theorem hask_8 (w : World) (c : Cfg) (hok : Ok c) (b : Nat) (who owner seq : Int) (la : Option Addr) (m lc : Nat) (L : List (Int × Int)) (n : Int) (kn : Nat) (held cv cc nx : Int) (hB : Blk w b 181 (H.hL (mapCells c) who owner seq (.slice la m lc) ⟨L, n, kn, held, cv, cc, nx⟩)) (hr : w.ownsRow 0 136 2 (.slice la m lc) m (flat enE L)) (hm : m = L.length) (hg : H.Good c ⟨L, n, kn, held, cv, cc, nx⟩) (hnx : ¬ nx = 0 ∧ ¬ nx = 1 ∧ ¬ nx = 2 ∧ ¬ nx = 3 ∧ ¬ nx = 4 ∧ ¬ nx = 5 ∧ ¬ nx = 6 ∧ ¬ nx = 7) :
    Calls Try.prog 65 #[.pointer (some ⟨b, 0, none⟩)] w fun e w' => e = .returned (.tuple #[.agg (enP (H.ask c who owner seq ⟨L, n, kn, held, cv, cc, nx⟩).1).toArray, .bool (H.ask c who owner seq ⟨L, n, kn, held, cv, cc, nx⟩).2]) ∧ Fr [] w w' := by
  have hak : H.ask c who owner seq ⟨L, n, kn, held, cv, cc, nx⟩ = (p0, false) := by first | (subst hnx; simp [H.ask]) | simp [H.ask, hnx]
  rw [hak]; clear hak
  dsimp only
  have HA := Lib.hid (fun w => at_any w c hok 4 owner 0)
  have HWH := Lib.hid (fun p => what_all hok p)
  unfold Tells at HWH
  have HO := Lib.hid (fun w' (f : Fr [] w w') => hopen_any w' c hok b who owner seq (.slice la m lc) ⟨L, n, kn, held, cv, cc, nx⟩ (hB.fr f (by simp)))
  have hsz : (mapCells c).length = 24 := rfl
  unfold mapV at *
  generalize mapCells c = cs at *
  generalize at_ c 4 owner 0 = a4 at HO HA ⊢
  try generalize at_ c 4 owner 0 = av at HA ⊢
  have hS := (Sep.nil (Fr.refl [] w)).new 43 (enP p0)
  have HS := Lib.hid hS; clear hS
  have HB := Lib.hid (fun w' (f : Fr [] w w') => hB.fr f (by simp))
  have hbw := hB.lt
  have hmi : (m : Int) ≤ 100000 := by have := hg.2.2.2.1; dsimp only at this; omega
  clear hB hm hg
  obtain ⟨n0, n1, n2, n3, n4, n5, n6, n7⟩ := hnx
  have n0 : (nx == 0) = false := by simpa using n0
  have n1 : (nx == 1) = false := by simpa using n1
  have n2 : (nx == 2) = false := by simpa using n2
  have n3 : (nx == 3) = false := by simpa using n3
  have n4 : (nx == 4) = false := by simpa using n4
  have n5 : (nx == 5) = false := by simpa using n5
  have n6 : (nx == 6) = false := by simpa using n6
  have n7 : (nx == 7) = false := by simpa using n7
  go_enter Try.func65, Try.ntmps65
  go_wp2_with fail
  refine (HO.out _ HS.out.fr).mono ?_
  rintro e w1 ⟨rfl, hf⟩
  have hS := (HS.out.fr0 hf).new 41 [.int .u64 1, .int .u64 seq]
  have HS := Lib.hid hS
  clear hS hf HO
  have hB := HB.out _ HS.out.fr
  have k24 := (hB.cell 24).trans (H.hL_at hsz who owner seq (.slice la m lc) ⟨L, n, kn, held, cv, cc, nx⟩).1
  have k25 := (hB.cell 25).trans (H.hL_at hsz who owner seq (.slice la m lc) ⟨L, n, kn, held, cv, cc, nx⟩).2.1
  have k26 := (hB.cell 26).trans (H.hL_at hsz who owner seq (.slice la m lc) ⟨L, n, kn, held, cv, cc, nx⟩).2.2.1
  have k27 := (hB.cell 27).trans (H.hL_at hsz who owner seq (.slice la m lc) ⟨L, n, kn, held, cv, cc, nx⟩).2.2.2.1
  have k29 := (hB.cell 29).trans (H.hL_at hsz who owner seq (.slice la m lc) ⟨L, n, kn, held, cv, cc, nx⟩).2.2.2.2.2.1
  have k31 := (hB.cell 31).trans (H.hL_at hsz who owner seq (.slice la m lc) ⟨L, n, kn, held, cv, cc, nx⟩).2.2.2.2.2.2.2.1
  have k32 := (hB.cell 32).trans (H.hL_at hsz who owner seq (.slice la m lc) ⟨L, n, kn, held, cv, cc, nx⟩).2.2.2.2.2.2.2.2.1
  have k33 := (hB.cell 33).trans (H.hL_at hsz who owner seq (.slice la m lc) ⟨L, n, kn, held, cv, cc, nx⟩).2.2.2.2.2.2.2.2.2
  dsimp only at k29 k31 k32 k33
  try rw [HLA.out] at k27
  have q0 := (HS.out.blk 0 rfl).cell 0
  have q1 := (HS.out.blk 0 rfl).cell 1
  have ql := (HS.out.blk 0 rfl).lt
  have hqn : ¬ w1.heap.size = w.heap.size := HS.out.ne 0 1 rfl rfl (by decide)
  simp only [List.getElem?_cons_zero, List.getElem?_cons_succ] at q0 q1
  have kl := hB.lt
  have hmd := hB.drew
  have hne : ¬ b = w.heap.size := by omega
  clear hB
  have honeP := enP_one p0
  go_wp2_with (first | (refine wpList_store_sep HS.out 1 rfl (enP p0) 43 _ _ rfl rfl rfl rfl rfl (by kernel_rfl) honeP (fun wA hA _ => ?_); have HS := Lib.hid hA; clear hA))
  exact bodyPost_ret (v := .tuple #[.agg (enP p0).toArray, .bool false]) (res_cell_tmp Try.results65 rfl rfl (HS.out.blk 1 rfl).range Try.underlying43 rfl (by kernel_rfl)) rfl ⟨rfl, HS.out.fr⟩
theorem hask_any (w : World) (c : Cfg) (hok : Ok c) (b : Nat) (who owner seq : Int) (v : Value) (h : H.H) (hB : Blk w b 181 (H.hL (mapCells c) who owner seq v h)) (hr : w.ownsRow 0 136 2 v h.list.length (flat enE h.list)) (hg : H.Good c h) :
    Calls Try.prog 65 #[.pointer (some ⟨b, 0, none⟩)] w fun e w' => e = .returned (.tuple #[.agg (enP (H.ask c who owner seq h).1).toArray, .bool (H.ask c who owner seq h).2]) ∧ Fr [] w w' := by
  obtain ⟨L, n, k, held, cv, cc, nx⟩ := h
  obtain ⟨kn, hk⟩ : ∃ kn : Nat, k = (kn : Int) := ⟨k.toNat, by have := hg.2.2.2.2.1; dsimp only at this; omega⟩
  subst hk
  obtain ⟨la, lc, rfl⟩ := ownsRow_any hr
  by_cases e0 : nx = 0
  · exact hask_0 w c hok b who owner seq la _ lc L n kn held cv cc nx hB hr rfl hg e0
  by_cases e1 : nx = 1
  · exact hask_1 w c hok b who owner seq la _ lc L n kn held cv cc nx hB hr rfl hg e1
  by_cases e2 : nx = 2
  · exact hask_2 w c hok b who owner seq la _ lc L n kn held cv cc nx hB hr rfl hg e2
  by_cases e3 : nx = 3
  · exact hask_3 w c hok b who owner seq la _ lc L n kn held cv cc nx hB hr rfl hg e3
  by_cases e4 : nx = 4
  · exact hask_4 w c hok b who owner seq la _ lc L n kn held cv cc nx hB hr rfl hg e4
  by_cases e5 : nx = 5
  · exact hask_5 w c hok b who owner seq la _ lc L n kn held cv cc nx hB hr rfl hg e5
  by_cases e6 : nx = 6
  · exact hask_6 w c hok b who owner seq la _ lc L n kn held cv cc nx hB hr rfl hg e6
  by_cases e7 : nx = 7
  · exact hask_7 w c hok b who owner seq la _ lc L n kn held cv cc nx hB hr rfl hg e7
  exact hask_8 w c hok b who owner seq la _ lc L n kn held cv cc nx hB hr rfl hg ⟨e0, e1, e2, e3, e4, e5, e6, e7⟩
end Go.Proofs.Ytccioehckfdjdaa
