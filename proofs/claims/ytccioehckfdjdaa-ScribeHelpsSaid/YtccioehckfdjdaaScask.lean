/- The walk of scribe's Ask. -/
import Derived.Test.YtccioehckfdjdaaScw
set_option linter.unusedSimpArgs false
set_option linter.unusedVariables false
namespace Go.Proofs.Ytccioehckfdjdaa
open Go.RowKit Go.Tum Go.Tum.Y Go.Tum.Sc
def opL (k a ov os nv ns : Int) : List Value := [.int .i64 k, .int .i64 a, .int .u64 ov, .int .u64 os, .int .u64 nv, .int .u64 ns]
def opV (k a ov os nv ns : Int) : Value := .agg #[.int .i64 k, .int .i64 a, .int .u64 ov, .int .u64 os, .int .u64 nv, .int .u64 ns]
theorem oneOp (k a ov os nv ns : Int) : ∀ v ∈ [Value.int .i64 k, .int .i64 a, .int .u64 ov, .int .u64 os, .int .u64 nv, .int .u64 ns], v.oneCell' = true := by simp [Value.oneCell']
set_option maxRecDepth 100000 in
set_option maxHeartbeats 4000000 in
theorem ask_done (w : World) (c : Cfg) (h : Ok c) (b : Nat) (who seq : Int) (la : Option Addr) (n lc d : Nat) (hB : Blk w b 205 (scL (mapCells c) who seq (.slice la n lc) d)) (hn : n ≤ 100000) (hd : d ≤ 100000) (hdn : decide (d > n + 1) = true) :
    Calls Try.prog 85 #[.pointer (some ⟨b, 0, none⟩)] w fun e w' => e = .returned (.tuple #[opV 0 0 0 0 0 0, .bool false]) ∧ Fr [] w w' := by
  have hS := ((Sep.nil (Fr.refl [] w)).new 43 [.int .i64 0, .int .i64 0, .int .u64 0, .int .u64 0, .int .u64 0, .int .u64 0]).new 43 [.int .i64 1, .int .i64 0, .int .u64 0, .int .u64 0, .int .u64 0, .int .u64 0]
  simp only [World.size_alloc] at hS
  have HS := Lib.hid hS; clear hS
  have HA := Lib.hid (fun w kd i k => at_any w c h kd i k)
  have hsz : (mapCells c).length = 24 := rfl
  unfold mapV at *
  generalize mapCells c = cs at *
  have HB := Lib.hid hB
  have HD := Lib.hid (fun w' (f : Fr [] w w') => done_any w' b cs hsz who seq la n lc d (HB.out.fr f (by simp)) hn hd)
  rw [hdn] at HD
  have hni : (n : Int) ≤ 100000 := by omega
  have hdi : (d : Int) ≤ 100000 := by omega
  have hbw := hB.lt
  clear hB h hn hd
  go_enter Try.func85, Try.ntmps85
  go_wp2_with fail
  refine (HD.out _ HS.out.fr).mono ?_
  rintro e w1 ⟨rfl, hf⟩
  have HS := Lib.hid (HS.out.fr0 hf)
  clear hf HD
  have hone := oneOp 0 0 0 0 0 0
  go_wp2_with (first | (refine wpList_store_mid rfl 43 _ _ rfl w.heap.size 0 ([.int .i64 0, .int .i64 0, .int .u64 0, .int .u64 0, .int .u64 0, .int .u64 0]).toArray rfl rfl ((HS.out.blk 1 rfl).there _ rfl) (by kernel_rfl) (all_oneCell_toArray hone) ?_))
  have HS := Lib.hid (HS.out.setAll 1 rfl [.int .i64 0, .int .i64 0, .int .u64 0, .int .u64 0, .int .u64 0, .int .u64 0] rfl)
  exact bodyPost_ret (v := .tuple #[opV 0 0 0 0 0 0, .bool false]) (res_cell_tmp Try.results85 rfl rfl (HS.out.blk 1 rfl).range Try.underlying43 rfl (by kernel_rfl)) rfl ⟨rfl, HS.out.fr⟩
set_option maxRecDepth 100000 in
set_option maxHeartbeats 4000000 in
theorem ask_open (w : World) (c : Cfg) (h : Ok c) (b : Nat) (who seq : Int) (la : Option Addr) (n lc d : Nat) (hB : Blk w b 205 (scL (mapCells c) who seq (.slice la n lc) d)) (hn : n ≤ 100000) (hd : d ≤ 100000) (hdn : decide (d > n + 1) = false) (hlt : ¬ d < n) (hne' : ¬ d = n) :
    Calls Try.prog 85 #[.pointer (some ⟨b, 0, none⟩)] w fun e w' => e = .returned (.tuple #[opV 1 (at_ c 4 who 0) 0 0 1 seq, .bool true]) ∧ Fr [] w w' := by
  have t0 : decide ((d : Int) < (n : Int)) = false := by simp; omega
  have t0' : decide (d < n) = false := by simp; omega
  have t1 : ((d : Int) == (n : Int)) = false := by simp; omega
  have t1' : (d == n) = false := by simpa using hne'
  have t1'' : decide (d = n) = false := by simpa using hne'
  obtain ⟨av, hav⟩ : ∃ x, x = at_ c 4 who 0 := ⟨_, rfl⟩
  rw [← hav]
  have HAV := Lib.hid hav
  clear hav
  have hS := ((Sep.nil (Fr.refl [] w)).new 43 [.int .i64 0, .int .i64 0, .int .u64 0, .int .u64 0, .int .u64 0, .int .u64 0]).new 43 [.int .i64 1, .int .i64 0, .int .u64 0, .int .u64 0, .int .u64 0, .int .u64 0]
  simp only [World.size_alloc] at hS
  have HS := Lib.hid hS; clear hS
  have HA := Lib.hid (fun w kd i k => at_any w c h kd i k)
  have hsz : (mapCells c).length = 24 := rfl
  unfold mapV at *
  generalize mapCells c = cs at *
  have HB := Lib.hid hB
  have HD := Lib.hid (fun w' (f : Fr [] w w') => done_any w' b cs hsz who seq la n lc d (HB.out.fr f (by simp)) hn hd)
  rw [hdn] at HD
  have hni : (n : Int) ≤ 100000 := by omega
  have hdi : (d : Int) ≤ 100000 := by omega
  have hbw := hB.lt
  clear hB h hn hd
  go_enter Try.func85, Try.ntmps85
  go_wp2_with fail
  refine (HD.out _ HS.out.fr).mono ?_
  rintro e w1 ⟨rfl, hf⟩
  have HS := Lib.hid (HS.out.fr0 hf)
  clear hf HD
  have hB := HB.out.fr HS.out.fr (by simp)
  have k24 := (hB.cell 24).trans (scL_at hsz who seq (.slice la n lc) d).1
  have k25 := (hB.cell 25).trans (scL_at hsz who seq (.slice la n lc) d).2.1
  have k26 := (hB.cell 26).trans (scL_at hsz who seq (.slice la n lc) d).2.2.1
  have k27 := (hB.cell 27).trans (scL_at hsz who seq (.slice la n lc) d).2.2.2
  have hbl := hB.lt
  clear hB
  go_wp2_with fail
  refine wp_region_fr [(1, [0, 1, 2, 3, 4, 5, 6, 7, 8, 9, 10])] [] (by kernel_rfl) (by kernel_rfl) ?_
  simp only [theOps, nthOp, List.map_cons, List.map_nil, Array.getD_eq_getD_getElem?, List.getElem?_toArray, List.getElem?_cons_succ, List.getElem?_cons_zero, Option.getD_some]
  repeat ((first | refine wpSegs_soft ?_ | refine wpSegs_pure ?_ | refine wpSegs_here ?_); (repeat (first | go_big_quiet_step (fail) | quiet_step (fail))); refine wpQuiet_nil ?_)
  refine wpSegs_done ?_
  have HS := Lib.hid HS.out.drew
  go_wp2_with fail
  have hB := HB.out.fr HS.out.fr (by simp)
  have k24 := (hB.cell 24).trans (scL_at hsz who seq (.slice la n lc) d).1
  have k25 := (hB.cell 25).trans (scL_at hsz who seq (.slice la n lc) d).2.1
  have k26 := (hB.cell 26).trans (scL_at hsz who seq (.slice la n lc) d).2.2.1
  have k27 := (hB.cell 27).trans (scL_at hsz who seq (.slice la n lc) d).2.2.2
  have hbl := hB.lt
  clear hB
  go_wp2_with fail
  refine wp_region_fr [(1, [0, 1, 2, 3, 4, 5, 6, 7, 8, 9, 10])] [] (by kernel_rfl) (by kernel_rfl) ?_
  simp only [theOps, nthOp, List.map_cons, List.map_nil, Array.getD_eq_getD_getElem?, List.getElem?_toArray, List.getElem?_cons_succ, List.getElem?_cons_zero, Option.getD_some]
  repeat ((first | refine wpSegs_soft ?_ | refine wpSegs_pure ?_ | refine wpSegs_here ?_); (repeat (first | go_big_quiet_step (fail) | quiet_step (fail))); refine wpQuiet_nil ?_)
  refine wpSegs_done ?_
  have HS := Lib.hid HS.out.drew
  go_wp2_with fail
  have hB := HB.out.fr HS.out.fr (by simp)
  have k24 := (hB.cell 24).trans (scL_at hsz who seq (.slice la n lc) d).1
  have k25 := (hB.cell 25).trans (scL_at hsz who seq (.slice la n lc) d).2.1
  have k26 := (hB.cell 26).trans (scL_at hsz who seq (.slice la n lc) d).2.2.1
  have k27 := (hB.cell 27).trans (scL_at hsz who seq (.slice la n lc) d).2.2.2
  have hbl := hB.lt
  have hmd := hB.drew
  have hne : ¬ b = w.heap.size + 1 := by omega
  clear hB
  go_wp2_with fail
  refine wp_region_fr [(1, [0, 1, 2, 3, 4, 5, 6, 7, 9, 10, 11, 12, 13]), (2, [8]), (0, [14]), (2, [15]), (0, [16]), (3, [17])] [w.heap.size + 1] (by kernel_rfl) (by kernel_rfl) ?_
  simp only [theOps, nthOp, List.map_cons, List.map_nil, Array.getD_eq_getD_getElem?, List.getElem?_toArray, List.getElem?_cons_succ, List.getElem?_cons_zero, Option.getD_some]
  refine wpSegs_soft ?_
  iterate 3 (first | go_big_quiet_step (fail) | quiet_step (fail))
  refine wpQuiet_load_mid 31 _ b 0 cs _ rfl rfl rfl (rangeAt_pre hmd (by simp; omega)) Try.underlying31 rfl (by rw [hsz]; kernel_rfl) ?_
  simp only [Act.put, List.setIfInBounds_toArray, List.set_cons_zero, List.set_cons_succ]
  repeat (first | go_big_quiet_step (fail) | quiet_step (fail))
  refine wpQuiet_nil ?_
  refine wpSegs_keep ?_
  go_wp2_with fail
  refine (HA.out _ _ _ _).mono ?_
  rintro e w2 ⟨rfl, hf⟩
  rw [← HAV.out]
  have HF := Lib.hid (hf.mono (fp' := [w.heap.size + 1]) (by simp))
  have HS := Lib.hid (HS.out.drew.fr0 hf)
  clear hf
  go_wp2_with fail
  refine ⟨⟨⟨_, (by exact HF.out)⟩, rfl⟩, ?_⟩
  have s1 := ((HS.out.blk 0 rfl).cell 1)
  have s4 := ((HS.out.blk 0 rfl).cell 4)
  have s5 := ((HS.out.blk 0 rfl).cell 5)
  have f1 := (HS.out.blk 0 rfl).froz 1
  have f4 := (HS.out.blk 0 rfl).froz 4
  have f5 := (HS.out.blk 0 rfl).froz 5
  have l4 := (HS.out.blk 0 rfl).lt
  simp only [List.getElem?_cons_zero, List.getElem?_cons_succ] at s1 s4 s5
  repeat ((first | refine wpSegs_soft ?_ | refine wpSegs_pure ?_ | refine wpSegs_here ?_); (repeat (first | go_big_quiet_step (fail) | quiet_step (fail))); refine wpQuiet_nil ?_)
  refine wpSegs_keep ?_
  go_wp2_with fail
  refine ⟨⟨⟨_, (by exact HF.out.setCell (.inl (by simp)) _)⟩, rfl⟩, ?_⟩
  repeat ((first | refine wpSegs_soft ?_ | refine wpSegs_pure ?_ | refine wpSegs_here ?_); (repeat (first | go_big_quiet_step (fail) | quiet_step (fail))); refine wpQuiet_nil ?_)
  refine wpSegs_hard ?_
  go_wp2_with fail
  refine wpSegs_done ?_
  have hS := ((HS.out.set 0 rfl 1 (.int .i64 av)).set 0 rfl 4 (.int .u64 1)).set 0 rfl 5 (.int .u64 seq)
  simp only [List.set_cons_zero, List.set_cons_succ] at hS
  generalize ((w2.setCell ⟨w.heap.size + 1, 1, none⟩ (.int .i64 av)).setCell ⟨w.heap.size + 1, 4, none⟩ (.int .u64 1)).setCell ⟨w.heap.size + 1, 5, none⟩ (.int .u64 seq) = w3 at *
  clear s1 s4 s5 f1 f4 f5 l4 HF HS
  have HS := Lib.hid hS; clear hS
  have hone := oneOp 1 av 0 0 1 seq
  go_wp2_with (first | (refine wpList_load_any 43 _ rfl rfl _ 0 rfl [.int .i64 1, .int .i64 av, .int .u64 0, .int .u64 0, .int .u64 1, .int .u64 seq] _ (HS.out.blk 0 rfl).range Try.underlying43 rfl (by kernel_rfl) ?_) | (refine wpList_store_mid rfl 43 _ _ rfl w.heap.size 0 ([.int .i64 1, .int .i64 av, .int .u64 0, .int .u64 0, .int .u64 1, .int .u64 seq]).toArray rfl rfl ((HS.out.blk 1 rfl).there _ rfl) (by kernel_rfl) (all_oneCell_toArray hone) ?_))
  have HS := Lib.hid (HS.out.setAll 1 rfl [.int .i64 1, .int .i64 av, .int .u64 0, .int .u64 0, .int .u64 1, .int .u64 seq] rfl)
  exact bodyPost_ret (v := .tuple #[opV 1 av 0 0 1 seq, .bool true]) (res_cell_tmp Try.results85 rfl rfl (HS.out.blk 1 rfl).range Try.underlying43 rfl (by kernel_rfl)) rfl ⟨rfl, HS.out.fr⟩
set_option maxRecDepth 100000 in
set_option maxHeartbeats 4000000 in
theorem ask_len (w : World) (c : Cfg) (h : Ok c) (b : Nat) (who seq : Int) (la : Option Addr) (n lc d : Nat) (hB : Blk w b 205 (scL (mapCells c) who seq (.slice la n lc) d)) (hn : n ≤ 100000) (hd : d ≤ 100000) (hdn : decide (d > n + 1) = false) (hne' : d = n) :
    Calls Try.prog 85 #[.pointer (some ⟨b, 0, none⟩)] w fun e w' => e = .returned (.tuple #[opV 1 (at_ c 5 who 0) 0 0 n 0, .bool true]) ∧ Fr [] w w' := by
  have t0 : decide ((d : Int) < (n : Int)) = false := by simp; omega
  have t0' : decide (d < n) = false := by simp; omega
  have t1 : ((d : Int) == (n : Int)) = true := by simp; omega
  have t1' : (d == n) = true := by simpa using hne'
  have t1'' : decide (d = n) = true := by simpa using hne'
  obtain ⟨av, hav⟩ : ∃ x, x = at_ c 5 who 0 := ⟨_, rfl⟩
  rw [← hav]
  have HAV := Lib.hid hav
  clear hav
  have hS := ((Sep.nil (Fr.refl [] w)).new 43 [.int .i64 0, .int .i64 0, .int .u64 0, .int .u64 0, .int .u64 0, .int .u64 0]).new 43 [.int .i64 1, .int .i64 0, .int .u64 0, .int .u64 0, .int .u64 0, .int .u64 0]
  simp only [World.size_alloc] at hS
  have HS := Lib.hid hS; clear hS
  have HA := Lib.hid (fun w kd i k => at_any w c h kd i k)
  have hsz : (mapCells c).length = 24 := rfl
  unfold mapV at *
  generalize mapCells c = cs at *
  have HB := Lib.hid hB
  have HD := Lib.hid (fun w' (f : Fr [] w w') => done_any w' b cs hsz who seq la n lc d (HB.out.fr f (by simp)) hn hd)
  rw [hdn] at HD
  have hni : (n : Int) ≤ 100000 := by omega
  have hdi : (d : Int) ≤ 100000 := by omega
  have hbw := hB.lt
  clear hB h hn hd
  go_enter Try.func85, Try.ntmps85
  go_wp2_with fail
  refine (HD.out _ HS.out.fr).mono ?_
  rintro e w1 ⟨rfl, hf⟩
  have HS := Lib.hid (HS.out.fr0 hf)
  clear hf HD
  have hB := HB.out.fr HS.out.fr (by simp)
  have k24 := (hB.cell 24).trans (scL_at hsz who seq (.slice la n lc) d).1
  have k25 := (hB.cell 25).trans (scL_at hsz who seq (.slice la n lc) d).2.1
  have k26 := (hB.cell 26).trans (scL_at hsz who seq (.slice la n lc) d).2.2.1
  have k27 := (hB.cell 27).trans (scL_at hsz who seq (.slice la n lc) d).2.2.2
  have hbl := hB.lt
  clear hB
  go_wp2_with fail
  refine wp_region_fr [(1, [0, 1, 2, 3, 4, 5, 6, 7, 8, 9, 10])] [] (by kernel_rfl) (by kernel_rfl) ?_
  simp only [theOps, nthOp, List.map_cons, List.map_nil, Array.getD_eq_getD_getElem?, List.getElem?_toArray, List.getElem?_cons_succ, List.getElem?_cons_zero, Option.getD_some]
  repeat ((first | refine wpSegs_soft ?_ | refine wpSegs_pure ?_ | refine wpSegs_here ?_); (repeat (first | go_big_quiet_step (fail) | quiet_step (fail))); refine wpQuiet_nil ?_)
  refine wpSegs_done ?_
  have HS := Lib.hid HS.out.drew
  go_wp2_with fail
  have hB := HB.out.fr HS.out.fr (by simp)
  have k24 := (hB.cell 24).trans (scL_at hsz who seq (.slice la n lc) d).1
  have k25 := (hB.cell 25).trans (scL_at hsz who seq (.slice la n lc) d).2.1
  have k26 := (hB.cell 26).trans (scL_at hsz who seq (.slice la n lc) d).2.2.1
  have k27 := (hB.cell 27).trans (scL_at hsz who seq (.slice la n lc) d).2.2.2
  have hbl := hB.lt
  clear hB
  go_wp2_with fail
  refine wp_region_fr [(1, [0, 1, 2, 3, 4, 5, 6, 7, 8, 9, 10])] [] (by kernel_rfl) (by kernel_rfl) ?_
  simp only [theOps, nthOp, List.map_cons, List.map_nil, Array.getD_eq_getD_getElem?, List.getElem?_toArray, List.getElem?_cons_succ, List.getElem?_cons_zero, Option.getD_some]
  repeat ((first | refine wpSegs_soft ?_ | refine wpSegs_pure ?_ | refine wpSegs_here ?_); (repeat (first | go_big_quiet_step (fail) | quiet_step (fail))); refine wpQuiet_nil ?_)
  refine wpSegs_done ?_
  have HS := Lib.hid HS.out.drew
  go_wp2_with fail
  have hB := HB.out.fr HS.out.fr (by simp)
  have k24 := (hB.cell 24).trans (scL_at hsz who seq (.slice la n lc) d).1
  have k25 := (hB.cell 25).trans (scL_at hsz who seq (.slice la n lc) d).2.1
  have k26 := (hB.cell 26).trans (scL_at hsz who seq (.slice la n lc) d).2.2.1
  have k27 := (hB.cell 27).trans (scL_at hsz who seq (.slice la n lc) d).2.2.2
  have hbl := hB.lt
  have hmd := hB.drew
  have hne : ¬ b = w.heap.size + 1 := by omega
  clear hB
  go_wp2_with fail
  refine wp_region_fr [(1, [0, 1, 2, 3, 4, 5, 6, 7, 9, 10, 11, 12, 13, 14, 15]), (2, [8]), (0, [16]), (2, [17]), (0, [18]), (3, [19])] [w.heap.size + 1] (by kernel_rfl) (by kernel_rfl) ?_
  simp only [theOps, nthOp, List.map_cons, List.map_nil, Array.getD_eq_getD_getElem?, List.getElem?_toArray, List.getElem?_cons_succ, List.getElem?_cons_zero, Option.getD_some]
  refine wpSegs_soft ?_
  iterate 3 (first | go_big_quiet_step (fail) | quiet_step (fail))
  refine wpQuiet_load_mid 31 _ b 0 cs _ rfl rfl rfl (rangeAt_pre hmd (by simp; omega)) Try.underlying31 rfl (by rw [hsz]; kernel_rfl) ?_
  simp only [Act.put, List.setIfInBounds_toArray, List.set_cons_zero, List.set_cons_succ]
  repeat (first | go_big_quiet_step (fail) | quiet_step (fail))
  refine wpQuiet_nil ?_
  refine wpSegs_keep ?_
  go_wp2_with fail
  refine (HA.out _ _ _ _).mono ?_
  rintro e w2 ⟨rfl, hf⟩
  rw [← HAV.out]
  have HF := Lib.hid (hf.mono (fp' := [w.heap.size + 1]) (by simp))
  have HS := Lib.hid (HS.out.drew.fr0 hf)
  clear hf
  go_wp2_with fail
  refine ⟨⟨⟨_, (by exact HF.out)⟩, rfl⟩, ?_⟩
  have s1 := ((HS.out.blk 0 rfl).cell 1)
  have s4 := ((HS.out.blk 0 rfl).cell 4)
  have s5 := ((HS.out.blk 0 rfl).cell 5)
  have f1 := (HS.out.blk 0 rfl).froz 1
  have f4 := (HS.out.blk 0 rfl).froz 4
  have f5 := (HS.out.blk 0 rfl).froz 5
  have l4 := (HS.out.blk 0 rfl).lt
  simp only [List.getElem?_cons_zero, List.getElem?_cons_succ] at s1 s4 s5
  repeat ((first | refine wpSegs_soft ?_ | refine wpSegs_pure ?_ | refine wpSegs_here ?_); (repeat (first | go_big_quiet_step (fail) | quiet_step (fail))); refine wpQuiet_nil ?_)
  refine wpSegs_keep ?_
  go_wp2_with fail
  refine ⟨⟨⟨_, (by exact HF.out.setCell (.inl (by simp)) _)⟩, rfl⟩, ?_⟩
  repeat ((first | refine wpSegs_soft ?_ | refine wpSegs_pure ?_ | refine wpSegs_here ?_); (repeat (first | go_big_quiet_step (fail) | quiet_step (fail))); refine wpQuiet_nil ?_)
  refine wpSegs_hard ?_
  go_wp2_with fail
  refine wpSegs_done ?_
  have hS := ((HS.out.set 0 rfl 1 (.int .i64 av)).set 0 rfl 4 (.int .u64 (n : Int))).set 0 rfl 5 (.int .u64 0)
  simp only [List.set_cons_zero, List.set_cons_succ] at hS
  generalize ((w2.setCell ⟨w.heap.size + 1, 1, none⟩ (.int .i64 av)).setCell ⟨w.heap.size + 1, 4, none⟩ (.int .u64 (n : Int))).setCell ⟨w.heap.size + 1, 5, none⟩ (.int .u64 0) = w3 at *
  clear s1 s4 s5 f1 f4 f5 l4 HF HS
  have HS := Lib.hid hS; clear hS
  have hone := oneOp 1 av 0 0 (n : Int) 0
  go_wp2_with (first | (refine wpList_load_any 43 _ rfl rfl _ 0 rfl [.int .i64 1, .int .i64 av, .int .u64 0, .int .u64 0, .int .u64 (n : Int), .int .u64 0] _ (HS.out.blk 0 rfl).range Try.underlying43 rfl (by kernel_rfl) ?_) | (refine wpList_store_mid rfl 43 _ _ rfl w.heap.size 0 ([.int .i64 1, .int .i64 av, .int .u64 0, .int .u64 0, .int .u64 (n : Int), .int .u64 0]).toArray rfl rfl ((HS.out.blk 1 rfl).there _ rfl) (by kernel_rfl) (all_oneCell_toArray hone) ?_))
  have HS := Lib.hid (HS.out.setAll 1 rfl [.int .i64 1, .int .i64 av, .int .u64 0, .int .u64 0, .int .u64 (n : Int), .int .u64 0] rfl)
  exact bodyPost_ret (v := .tuple #[opV 1 av 0 0 (n : Int) 0, .bool true]) (res_cell_tmp Try.results85 rfl rfl (HS.out.blk 1 rfl).range Try.underlying43 rfl (by kernel_rfl)) rfl ⟨rfl, HS.out.fr⟩
set_option maxRecDepth 100000 in
set_option maxHeartbeats 4000000 in
theorem ask_log (w : World) (c : Cfg) (h : Ok c) (b : Nat) (who seq : Int) (g : Nat) (n lc d : Nat) (K : List (Int × Int)) (hB : Blk w b 205 (scL (mapCells c) who seq (.slice (some ⟨g, 0, none⟩) n lc) d)) (hr : w.ownsRow 0 136 2 (.slice (some ⟨g, 0, none⟩) n lc) n (flat enE K)) (hK : K.length = n) (hn : n ≤ 100000) (hd : d ≤ 100000) (hdn : decide (d > n + 1) = false) (hlt : d < n) :
    Calls Try.prog 85 #[.pointer (some ⟨b, 0, none⟩)] w fun e w' => e = .returned (.tuple #[opV 1 (at_ c 6 who d) 0 0 (K[d]'(by omega)).2 (IntKind.u64.wrap (K[d]'(by omega)).1), .bool true]) ∧ Fr [] w w' := by
  have hlti : (d : Int) < (n : Int) := by omega
  have HR : Hid (∀ w', Fr [] w w' → w'.cell? ⟨g, d * 2, none⟩ = some (.int .i64 (K[d]'(by omega)).1) ∧ w'.cell? ⟨g, d * 2 + 1, none⟩ = some (.int .u64 (K[d]'(by omega)).2)) := fun w' f =>
    ⟨f.cell (ownsRow_cell hr _ _ (by have := flat_get enE_len K d (by omega) 0 (by decide); simpa [enE] using this)) (by simp), f.cell (ownsRow_cell hr _ _ (by have := flat_get enE_len K d (by omega) 1 (by decide); simpa [enE] using this)) (by simp)⟩
  have hgw := (World.ownsRow.lt hr g rfl).2
  clear hr
  generalize K[d]'(by omega) = kk at *
  obtain ⟨ka, kv⟩ := kk
  dsimp only at HR ⊢
  obtain ⟨nsv, hns⟩ : ∃ x, x = IntKind.u64.wrap ka := ⟨_, rfl⟩
  rw [← hns]
  obtain ⟨la, hla⟩ : ∃ x : Option Addr, x = some ⟨g, 0, none⟩ := ⟨_, rfl⟩
  rw [← hla] at hB
  obtain ⟨av, hav⟩ : ∃ x, x = at_ c 6 who d := ⟨_, rfl⟩
  rw [← hav]
  have HAV := Lib.hid hav
  clear hav
  have hS := ((Sep.nil (Fr.refl [] w)).new 43 [.int .i64 0, .int .i64 0, .int .u64 0, .int .u64 0, .int .u64 0, .int .u64 0]).new 43 [.int .i64 1, .int .i64 0, .int .u64 0, .int .u64 0, .int .u64 0, .int .u64 0]
  simp only [World.size_alloc] at hS
  have HS := Lib.hid hS; clear hS
  have HA := Lib.hid (fun w kd i k => at_any w c h kd i k)
  have hsz : (mapCells c).length = 24 := rfl
  unfold mapV at *
  generalize mapCells c = cs at *
  have HB := Lib.hid hB
  have HD := Lib.hid (fun w' (f : Fr [] w w') => done_any w' b cs hsz who seq la n lc d (HB.out.fr f (by simp)) hn hd)
  rw [hdn] at HD
  have hni : (n : Int) ≤ 100000 := by omega
  have hdi : (d : Int) ≤ 100000 := by omega
  have hbw := hB.lt
  clear hB h hn hd
  go_enter Try.func85, Try.ntmps85
  go_wp2_with fail
  refine (HD.out _ HS.out.fr).mono ?_
  rintro e w1 ⟨rfl, hf⟩
  have HS := Lib.hid (HS.out.fr0 hf)
  clear hf HD
  have hB := HB.out.fr HS.out.fr (by simp)
  have k24 := (hB.cell 24).trans (scL_at hsz who seq (.slice la n lc) d).1
  have k25 := (hB.cell 25).trans (scL_at hsz who seq (.slice la n lc) d).2.1
  have k26 := (hB.cell 26).trans (scL_at hsz who seq (.slice la n lc) d).2.2.1
  have k27 := (hB.cell 27).trans (scL_at hsz who seq (.slice la n lc) d).2.2.2
  have hbl := hB.lt
  clear hB
  go_wp2_with fail
  refine wp_region_fr [(1, [0, 1, 2, 3, 4, 5, 6, 7, 8, 9, 10])] [] (by kernel_rfl) (by kernel_rfl) ?_
  simp only [theOps, nthOp, List.map_cons, List.map_nil, Array.getD_eq_getD_getElem?, List.getElem?_toArray, List.getElem?_cons_succ, List.getElem?_cons_zero, Option.getD_some]
  repeat ((first | refine wpSegs_soft ?_ | refine wpSegs_pure ?_ | refine wpSegs_here ?_); (repeat (first | go_big_quiet_step (fail) | quiet_step (fail))); refine wpQuiet_nil ?_)
  refine wpSegs_done ?_
  have HS := Lib.hid HS.out.drew
  go_wp2_with fail
  obtain ⟨y0, y1⟩ := HR.out _ HS.out.fr
  have hB := HB.out.fr HS.out.fr (by simp)
  have k24 := (hB.cell 24).trans (scL_at hsz who seq (.slice la n lc) d).1
  have k25 := (hB.cell 25).trans (scL_at hsz who seq (.slice la n lc) d).2.1
  have k26 := (hB.cell 26).trans (scL_at hsz who seq (.slice la n lc) d).2.2.1
  have k27 := (hB.cell 27).trans (scL_at hsz who seq (.slice la n lc) d).2.2.2
  have hbl := hB.lt
  subst hla
  have hgl := Nat.lt_of_lt_of_le hgw HS.out.fr.size
  clear hB
  go_wp2_with fail
  refine wp_region_fr [(1, [0, 1, 2, 3, 4, 5, 6, 7, 8, 9]), (2, [10]), (3, [11])] [] (by kernel_rfl) (by kernel_rfl) ?_
  simp only [theOps, nthOp, List.map_cons, List.map_nil, Array.getD_eq_getD_getElem?, List.getElem?_toArray, List.getElem?_cons_succ, List.getElem?_cons_zero, Option.getD_some]
  repeat ((first | refine wpSegs_soft ?_ | refine wpSegs_pure ?_ | refine wpSegs_here ?_); (repeat (first | go_big_quiet_step (fail) | quiet_step (fail))); refine wpQuiet_nil ?_)
  refine wpSegs_keep ?_
  go_wp2_with fail
  refine ⟨⟨⟨_, (by exact (Fr.refl _ _).alloc _)⟩, rfl⟩, ?_⟩
  refine wpSegs_hard ?_
  go_wp2_with fail
  refine wpSegs_done ?_
  have HS := Lib.hid (HS.out.drew.new 136 [.int .i64 ka, .int .u64 kv])
  clear y0 y1 k24 k25 k26 k27 hbl hgl
  have HS : Hid (Sep w (w1.alloc (.cells #[.int .i64 ka, .int .u64 kv] 136)).drew.drew [blkT w1.heap.size 136 [.int .i64 ka, .int .u64 kv], blkT (w.heap.size + 1) 43 [.int .i64 1, .int .i64 0, .int .u64 0, .int .u64 0, .int .u64 0, .int .u64 0], blkT w.heap.size 43 [.int .i64 0, .int .i64 0, .int .u64 0, .int .u64 0, .int .u64 0, .int .u64 0]]) := HS
  generalize (w1.alloc (.cells #[.int .i64 ka, .int .u64 kv] 136)).drew.drew = w9 at *
  have hq5 : ¬ w1.heap.size = w.heap.size + 1 := HS.out.ne 0 1 rfl rfl (by decide)
  generalize w1.heap.size = q5 at *
  have z0 := (HS.out.blk 0 rfl).cell 0
  have z1 := (HS.out.blk 0 rfl).cell 1
  simp only [List.getElem?_cons_zero, List.getElem?_cons_succ] at z0 z1
  have hB := HB.out.fr HS.out.fr (by simp)
  obtain ⟨la, hla⟩ : ∃ x : Option Addr, x = some ⟨g, 0, none⟩ := ⟨_, rfl⟩
  rw [← hla] at hB
  have k24 := (hB.cell 24).trans (scL_at hsz who seq (.slice la n lc) d).1
  have k25 := (hB.cell 25).trans (scL_at hsz who seq (.slice la n lc) d).2.1
  have k26 := (hB.cell 26).trans (scL_at hsz who seq (.slice la n lc) d).2.2.1
  have k27 := (hB.cell 27).trans (scL_at hsz who seq (.slice la n lc) d).2.2.2
  have hbl := hB.lt
  subst hla
  have hmd := hB.drew
  have hne : ¬ b = w.heap.size + 1 := by omega
  clear hB
  go_wp2_with fail
  refine wp_region_fr [(1, [0, 1, 2, 3, 4, 5, 6, 7, 8, 9, 10, 11, 13, 14, 15, 16, 17, 18]), (2, [12]), (0, [19]), (2, [20]), (0, [21]), (3, [22])] [w.heap.size + 1] (by kernel_rfl) (by kernel_rfl) ?_
  simp only [theOps, nthOp, List.map_cons, List.map_nil, Array.getD_eq_getD_getElem?, List.getElem?_toArray, List.getElem?_cons_succ, List.getElem?_cons_zero, Option.getD_some]
  refine wpSegs_soft ?_
  iterate 3 (first | go_big_quiet_step (fail) | quiet_step (fail))
  refine wpQuiet_load_mid 31 _ b 0 cs _ rfl rfl rfl (rangeAt_pre hmd (by simp; omega)) Try.underlying31 rfl (by rw [hsz]; kernel_rfl) ?_
  simp only [Act.put, List.setIfInBounds_toArray, List.set_cons_zero, List.set_cons_succ]
  repeat (first | go_big_quiet_step (fail) | quiet_step (fail))
  refine wpQuiet_nil ?_
  refine wpSegs_keep ?_
  go_wp2_with fail
  refine (HA.out _ _ _ _).mono ?_
  rintro e w2 ⟨rfl, hf⟩
  rw [← HAV.out]
  have HF := Lib.hid (hf.mono (fp' := [w.heap.size + 1]) (by simp))
  have HS := Lib.hid (HS.out.drew.fr0 hf)
  clear hf
  go_wp2_with fail
  refine ⟨⟨⟨_, (by exact HF.out)⟩, rfl⟩, ?_⟩
  have s1 := ((HS.out.blk 1 rfl).cell 1)
  have s4 := ((HS.out.blk 1 rfl).cell 4)
  have s5 := ((HS.out.blk 1 rfl).cell 5)
  have f1 := (HS.out.blk 1 rfl).froz 1
  have f4 := (HS.out.blk 1 rfl).froz 4
  have f5 := (HS.out.blk 1 rfl).froz 5
  have l4 := (HS.out.blk 1 rfl).lt
  simp only [List.getElem?_cons_zero, List.getElem?_cons_succ] at s1 s4 s5
  repeat ((first | refine wpSegs_soft ?_ | refine wpSegs_pure ?_ | refine wpSegs_here ?_); (repeat (first | go_big_quiet_step (fail) | quiet_step (fail))); refine wpQuiet_nil ?_)
  refine wpSegs_keep ?_
  go_wp2_with fail
  refine ⟨⟨⟨_, (by exact HF.out.setCell (.inl (by simp)) _)⟩, rfl⟩, ?_⟩
  repeat ((first | refine wpSegs_soft ?_ | refine wpSegs_pure ?_ | refine wpSegs_here ?_); (repeat (first | go_big_quiet_step (fail) | quiet_step (fail))); refine wpQuiet_nil ?_)
  refine wpSegs_hard ?_
  go_wp2_with fail
  refine wpSegs_done ?_
  have hS := ((HS.out.set 1 rfl 1 (.int .i64 av)).set 1 rfl 4 (.int .u64 kv)).set 1 rfl 5 (.int .u64 (IntKind.u64.wrap ka))
  simp only [List.set_cons_zero, List.set_cons_succ] at hS
  generalize ((w2.setCell ⟨w.heap.size + 1, 1, none⟩ (.int .i64 av)).setCell ⟨w.heap.size + 1, 4, none⟩ (.int .u64 kv)).setCell ⟨w.heap.size + 1, 5, none⟩ (.int .u64 (IntKind.u64.wrap ka)) = w3 at *
  clear s1 s4 s5 f1 f4 f5 l4 HF HS
  have HS := Lib.hid hS; clear hS
  have hone := oneOp 1 av 0 0 kv (IntKind.u64.wrap ka)
  rw [← hns] at *
  go_wp2_with (first | (refine wpList_load_any 43 _ rfl rfl _ 0 rfl [.int .i64 1, .int .i64 av, .int .u64 0, .int .u64 0, .int .u64 kv, .int .u64 nsv] _ (HS.out.blk 1 rfl).range Try.underlying43 rfl (by kernel_rfl) ?_) | (refine wpList_store_mid rfl 43 _ _ rfl w.heap.size 0 ([.int .i64 1, .int .i64 av, .int .u64 0, .int .u64 0, .int .u64 kv, .int .u64 nsv]).toArray rfl rfl ((HS.out.blk 2 rfl).there _ rfl) (by kernel_rfl) (all_oneCell_toArray hone) ?_))
  have HS := Lib.hid (HS.out.setAll 2 rfl [.int .i64 1, .int .i64 av, .int .u64 0, .int .u64 0, .int .u64 kv, .int .u64 nsv] rfl)
  exact bodyPost_ret (v := .tuple #[opV 1 av 0 0 kv nsv, .bool true]) (res_cell_tmp Try.results85 rfl rfl (HS.out.blk 2 rfl).range Try.underlying43 rfl (by kernel_rfl)) rfl ⟨rfl, HS.out.fr⟩
end Go.Proofs.Ytccioehckfdjdaa
