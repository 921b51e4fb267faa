/- The walk of pool's Ask. -/
import Derived.Test.YtccioehckfdjdaaPw
set_option linter.unusedSimpArgs false
set_option linter.unusedVariables false
namespace Go.Proofs.Ytccioehckfdjdaa
open Go.RowKit Go.Tum Go.Tum.Y
theorem cfgV_field (c : Cfg) (w : World) : (Instr.field 24 (cfgV c) 0).run Try.prog w = .ok (.int .i64 c.t) w ∧ (Instr.field 24 (cfgV c) 1).run Try.prog w = .ok (.int .i64 c.b) w :=
  ⟨run_field_cell w _ _ _ _ _ _ _ Try.underlying24 rfl Try.underlying3 rfl rfl, run_field_cell w _ _ _ _ _ _ _ Try.underlying24 rfl Try.underlying3 rfl rfl⟩
set_option maxRecDepth 100000 in
set_option maxHeartbeats 4000000 in
theorem pask_no {w0 w : World} {R : List Thing} (b : Nat) (c : Cfg) (hok : Y.Ok c) (seq : Int) (p : P.St) (hp : P.Ok c p) (h0 : p.s ≠ 0) (hS : Sep w0 w (poolT c seq b p :: R)) :
    Calls Try.prog 27 #[.pointer (some ⟨b, 0, none⟩)] w fun e w' => e = .returned (.tuple #[.agg (enP p0).toArray, .bool false]) ∧ Fr [] w w' := by
  have hnb := hp.next
  have hsb := hp.s
  have ht8 := hok.t8
  have ht1 := hok.t1
  clear hp
  obtain ⟨mb, la, lc, h2⟩ := poolT_of hS
  have hsz : (mapCells c).length = 24 := rfl
  have HCF := Lib.hid (fun w => pcfg_any w c)
  have HFD := Lib.hid (fun w => cfgV_field c w)
  have KF := Lib.hid (P.pf hsz seq (.map (some mb)) (.slice la p.lim.length lc) p)
  have HB := Lib.hid (h2.blk 0 rfl)
  unfold mapV at *
  generalize hcf : cfgV c = cf at *
  clear hcf
  generalize mapCells c = cs at *
  have hbw := HB.out.lt
  have HS := Lib.hid ((Sep.nil (Fr.refl [] w)).new 43 (enP p0))
  clear h2 hS
  unfold P.poolL at HB KF
  obtain ⟨pn, pf, pwt, pwl, nt, nl, lim, ps⟩ := p
  dsimp only at *
  have d0 : (ps != 0) = true := by simpa using h0
  have hB1 := HB.out.fr HS.out.fr (by simp)
  have kf := KF.out
  have k25 := (hB1.cell 25).trans kf.next
  have k32 := (hB1.cell 32).trans kf.s
  have kl := hB1.lt
  clear kf
  have hne : ¬ b = w.heap.size := by omega
  go_enter Try.func27, Try.ntmps27
  go_wp2_with (refine wpList_load_any 31 _ rfl rfl _ 0 rfl cs _ (Blk.pre hB1) Try.underlying31 rfl (by rw [hsz]; kernel_rfl) ?_)
  refine (HCF.out _).mono ?_
  rintro e w2 ⟨rfl, hf⟩
  have HS := Lib.hid (HS.out.fr0 hf); clear hf hB1 k25 k32 kl
  have hB1 := HB.out.fr HS.out.fr (by simp)
  have kf := KF.out
  have k25 := (hB1.cell 25).trans kf.next
  have k32 := (hB1.cell 32).trans kf.s
  have kl := hB1.lt
  clear kf
  have hfl := fun w => (HFD.out w).1
  have honeP := enP_one p0
  go_wp2_with (refine wpList_store_sep HS.out 0 rfl (enP p0) 43 _ _ rfl rfl rfl rfl rfl (by kernel_rfl) honeP (fun wA hA _ => ?_); have HS := Lib.hid hA; clear hA)
  exact bodyPost_ret (v := .tuple #[.agg (enP p0).toArray, .bool false]) (res_cell_tmp Try.results27 rfl rfl (HS.out.blk 0 rfl).range Try.underlying43 rfl (by kernel_rfl)) rfl ⟨rfl, HS.out.fr⟩
set_option maxRecDepth 100000 in
set_option maxHeartbeats 4000000 in
theorem pask_slot {w0 w : World} {R : List Thing} (b : Nat) (c : Cfg) (hok : Y.Ok c) (seq : Int) (p : P.St) (hp : P.Ok c p) (h0 : p.s = 0) (h1 : p.next < c.t) (hS : Sep w0 w (poolT c seq b p :: R)) :
    Calls Try.prog 27 #[.pointer (some ⟨b, 0, none⟩)] w fun e w' => e = .returned (.tuple #[.agg (enP (⟨0, at_ c 3 p.next 0, 0, 0, 0, 0⟩)).toArray, .bool true]) ∧ Fr [] w w' := by
  have hnb := hp.next
  have hsb := hp.s
  have ht8 := hok.t8
  have ht1 := hok.t1
  clear hp
  have HA := Lib.hid (fun w => at_any w c hok 3 p.next 0)
  generalize at_ c 3 p.next 0 = av at *
  obtain ⟨mb, la, lc, h2⟩ := poolT_of hS
  have hsz : (mapCells c).length = 24 := rfl
  have HCF := Lib.hid (fun w => pcfg_any w c)
  have HFD := Lib.hid (fun w => cfgV_field c w)
  have KF := Lib.hid (P.pf hsz seq (.map (some mb)) (.slice la p.lim.length lc) p)
  have HB := Lib.hid (h2.blk 0 rfl)
  unfold mapV at *
  generalize hcf : cfgV c = cf at *
  clear hcf
  generalize mapCells c = cs at *
  have hbw := HB.out.lt
  have HS := Lib.hid ((Sep.nil (Fr.refl [] w)).new 43 (enP p0))
  clear h2 hS
  unfold P.poolL at HB KF
  obtain ⟨pn, pf, pwt, pwl, nt, nl, lim, ps⟩ := p
  dsimp only at *
  subst h0
  have hB1 := HB.out.fr HS.out.fr (by simp)
  have kf := KF.out
  have k25 := (hB1.cell 25).trans kf.next
  have k32 := (hB1.cell 32).trans kf.s
  have kl := hB1.lt
  clear kf
  have hne : ¬ b = w.heap.size := by omega
  go_enter Try.func27, Try.ntmps27
  go_wp2_with (refine wpList_load_any 31 _ rfl rfl _ 0 rfl cs _ (Blk.pre hB1) Try.underlying31 rfl (by rw [hsz]; kernel_rfl) ?_)
  refine (HCF.out _).mono ?_
  rintro e w2 ⟨rfl, hf⟩
  have HS := Lib.hid (HS.out.fr0 hf); clear hf hB1 k25 k32 kl
  have hB1 := HB.out.fr HS.out.fr (by simp)
  have kf := KF.out
  have k25 := (hB1.cell 25).trans kf.next
  have k32 := (hB1.cell 32).trans kf.s
  have kl := hB1.lt
  clear kf
  have hfl := fun w => (HFD.out w).1
  go_wp2_with fail
  have hmd := hB1.drew
  refine wp_region_fr [(1, [0, 1, 2, 3, 4, 5, 6, 7]), (3, [8]), (0, [9]), (3, [10]), (0, [11])] [w.heap.size] (by kernel_rfl) (by kernel_rfl) ?_
  simp only [theOps, nthOp, List.map_cons, List.map_nil, Array.getD_eq_getD_getElem?, List.getElem?_toArray, List.getElem?_cons_succ, List.getElem?_cons_zero, Option.getD_some]
  refine wpSegs_soft ?_
  iterate 3 (first | go_big_quiet_step (fail) | quiet_step (fail))
  refine wpQuiet_load_mid 31 _ b 0 cs _ rfl rfl rfl (rangeAt_pre hmd (by simp <;> omega)) Try.underlying31 rfl (by rw [hsz]; kernel_rfl) ?_
  simp only [Act.put, List.setIfInBounds_toArray, List.set_cons_zero, List.set_cons_succ]
  repeat (first | go_big_quiet_step (fail) | quiet_step (fail))
  refine wpQuiet_nil ?_
  refine wpSegs_hard ?_
  go_wp2_with fail
  refine (HA.out _).mono ?_
  rintro e w3 ⟨rfl, hf⟩
  have HS := Lib.hid (HS.out.drew.fr0 hf); clear hf
  go_wp2_with fail
  repeat ((first | refine wpSegs_soft ?_ | refine wpSegs_pure ?_ | refine wpSegs_here ?_); (repeat (first | go_big_quiet_step (fail) | quiet_step (fail))); refine wpQuiet_nil ?_)
  refine wpSegs_hard ?_
  have honeP := enP_one ⟨0, av, 0, 0, 0, 0⟩
  refine wpList_store_sep HS.out 0 rfl (enP ⟨0, av, 0, 0, 0, 0⟩) 43 _ _ rfl rfl rfl rfl rfl (by kernel_rfl) honeP (fun wA hA _ => ?_)
  have HS := Lib.hid hA; clear hA
  go_wp2_with fail
  repeat ((first | refine wpSegs_soft ?_ | refine wpSegs_pure ?_ | refine wpSegs_here ?_); (repeat (first | go_big_quiet_step (fail) | quiet_step (fail))); refine wpQuiet_nil ?_)
  refine wpSegs_done ?_
  go_wp2_with fail
  exact bodyPost_ret (v := .tuple #[.agg (enP ⟨0, av, 0, 0, 0, 0⟩).toArray, .bool true]) (res_cell_tmp Try.results27 rfl rfl (HS.out.blk 0 rfl).range Try.underlying43 rfl (by kernel_rfl)) rfl ⟨rfl, HS.out.fr⟩
set_option maxRecDepth 100000 in
set_option maxHeartbeats 4000000 in
theorem pask_top {w0 w : World} {R : List Thing} (b : Nat) (c : Cfg) (hok : Y.Ok c) (seq : Int) (p : P.St) (hp : P.Ok c p) (h0 : p.s = 0) (h1 : p.next = c.t) (hS : Sep w0 w (poolT c seq b p :: R)) :
    Calls Try.prog 27 #[.pointer (some ⟨b, 0, none⟩)] w fun e w' => e = .returned (.tuple #[.agg (enP (⟨0, at_ c 12 0 0, 0, 0, 0, 0⟩)).toArray, .bool true]) ∧ Fr [] w w' := by
  have hnb := hp.next
  have hsb := hp.s
  have ht8 := hok.t8
  have ht1 := hok.t1
  clear hp
  have HA := Lib.hid (fun w => at_any w c hok 12 0 0)
  generalize at_ c 12 0 0 = av at *
  obtain ⟨mb, la, lc, h2⟩ := poolT_of hS
  have hsz : (mapCells c).length = 24 := rfl
  have HCF := Lib.hid (fun w => pcfg_any w c)
  have HFD := Lib.hid (fun w => cfgV_field c w)
  have KF := Lib.hid (P.pf hsz seq (.map (some mb)) (.slice la p.lim.length lc) p)
  have HB := Lib.hid (h2.blk 0 rfl)
  unfold mapV at *
  generalize hcf : cfgV c = cf at *
  clear hcf
  generalize mapCells c = cs at *
  have hbw := HB.out.lt
  have HS := Lib.hid ((Sep.nil (Fr.refl [] w)).new 43 (enP p0))
  clear h2 hS
  unfold P.poolL at HB KF
  obtain ⟨pn, pf, pwt, pwl, nt, nl, lim, ps⟩ := p
  dsimp only at *
  subst h0
  have d1 : decide (pn < c.t) = false := by simp; omega
  have d2 : (pn == c.t) = true := by simp; omega
  clear h1
  have hB1 := HB.out.fr HS.out.fr (by simp)
  have kf := KF.out
  have k25 := (hB1.cell 25).trans kf.next
  have k32 := (hB1.cell 32).trans kf.s
  have kl := hB1.lt
  clear kf
  have hne : ¬ b = w.heap.size := by omega
  go_enter Try.func27, Try.ntmps27
  go_wp2_with (refine wpList_load_any 31 _ rfl rfl _ 0 rfl cs _ (Blk.pre hB1) Try.underlying31 rfl (by rw [hsz]; kernel_rfl) ?_)
  refine (HCF.out _).mono ?_
  rintro e w2 ⟨rfl, hf⟩
  have HS := Lib.hid (HS.out.fr0 hf); clear hf hB1 k25 k32 kl
  have hB1 := HB.out.fr HS.out.fr (by simp)
  have kf := KF.out
  have k25 := (hB1.cell 25).trans kf.next
  have k32 := (hB1.cell 32).trans kf.s
  have kl := hB1.lt
  clear kf
  have hfl := fun w => (HFD.out w).1
  go_wp2_with (refine wpList_load_any 31 _ rfl rfl _ 0 rfl cs _ (Blk.pre hB1) Try.underlying31 rfl (by rw [hsz]; kernel_rfl) ?_)
  refine (HA.out _).mono ?_
  rintro e w3 ⟨rfl, hf⟩
  have HS := Lib.hid (HS.out.fr0 hf); clear hf
  have honeP := enP_one ⟨0, av, 0, 0, 0, 0⟩
  go_wp2_with (refine wpList_store_sep HS.out 0 rfl (enP ⟨0, av, 0, 0, 0, 0⟩) 43 _ _ rfl rfl rfl rfl rfl (by kernel_rfl) honeP (fun wA hA _ => ?_); have HS := Lib.hid hA; clear hA)
  exact bodyPost_ret (v := .tuple #[.agg (enP ⟨0, av, 0, 0, 0, 0⟩).toArray, .bool true]) (res_cell_tmp Try.results27 rfl rfl (HS.out.blk 0 rfl).range Try.underlying43 rfl (by kernel_rfl)) rfl ⟨rfl, HS.out.fr⟩
set_option maxRecDepth 100000 in
set_option maxHeartbeats 4000000 in
theorem pask_lim {w0 w : World} {R : List Thing} (b : Nat) (c : Cfg) (hok : Y.Ok c) (seq : Int) (p : P.St) (hp : P.Ok c p) (h0 : p.s = 0) (h1 : p.next = c.t + 1) (hS : Sep w0 w (poolT c seq b p :: R)) :
    Calls Try.prog 27 #[.pointer (some ⟨b, 0, none⟩)] w fun e w' => e = .returned (.tuple #[.agg (enP (⟨0, at_ c 14 0 0, 0, 0, 0, 0⟩)).toArray, .bool true]) ∧ Fr [] w w' := by
  have hnb := hp.next
  have hsb := hp.s
  have ht8 := hok.t8
  have ht1 := hok.t1
  clear hp
  have HA := Lib.hid (fun w => at_any w c hok 14 0 0)
  generalize at_ c 14 0 0 = av at *
  obtain ⟨mb, la, lc, h2⟩ := poolT_of hS
  have hsz : (mapCells c).length = 24 := rfl
  have HCF := Lib.hid (fun w => pcfg_any w c)
  have HFD := Lib.hid (fun w => cfgV_field c w)
  have KF := Lib.hid (P.pf hsz seq (.map (some mb)) (.slice la p.lim.length lc) p)
  have HB := Lib.hid (h2.blk 0 rfl)
  unfold mapV at *
  generalize hcf : cfgV c = cf at *
  clear hcf
  generalize mapCells c = cs at *
  have hbw := HB.out.lt
  have HS := Lib.hid ((Sep.nil (Fr.refl [] w)).new 43 (enP p0))
  clear h2 hS
  unfold P.poolL at HB KF
  obtain ⟨pn, pf, pwt, pwl, nt, nl, lim, ps⟩ := p
  dsimp only at *
  subst h0
  have d1 : decide (pn < c.t) = false := by simp; omega
  have d2 : (pn == c.t) = false := by simp; omega
  have d3 : (pn == c.t + 1) = true := by simp; omega
  clear h1
  have hB1 := HB.out.fr HS.out.fr (by simp)
  have kf := KF.out
  have k25 := (hB1.cell 25).trans kf.next
  have k32 := (hB1.cell 32).trans kf.s
  have kl := hB1.lt
  clear kf
  have hne : ¬ b = w.heap.size := by omega
  go_enter Try.func27, Try.ntmps27
  go_wp2_with (refine wpList_load_any 31 _ rfl rfl _ 0 rfl cs _ (Blk.pre hB1) Try.underlying31 rfl (by rw [hsz]; kernel_rfl) ?_)
  refine (HCF.out _).mono ?_
  rintro e w2 ⟨rfl, hf⟩
  have HS := Lib.hid (HS.out.fr0 hf); clear hf hB1 k25 k32 kl
  have hB1 := HB.out.fr HS.out.fr (by simp)
  have kf := KF.out
  have k25 := (hB1.cell 25).trans kf.next
  have k32 := (hB1.cell 32).trans kf.s
  have kl := hB1.lt
  clear kf
  have hfl := fun w => (HFD.out w).1
  go_wp2_with (refine wpList_load_any 31 _ rfl rfl _ 0 rfl cs _ (Blk.pre hB1) Try.underlying31 rfl (by rw [hsz]; kernel_rfl) ?_)
  refine (HA.out _).mono ?_
  rintro e w3 ⟨rfl, hf⟩
  have HS := Lib.hid (HS.out.fr0 hf); clear hf
  have honeP := enP_one ⟨0, av, 0, 0, 0, 0⟩
  go_wp2_with (refine wpList_store_sep HS.out 0 rfl (enP ⟨0, av, 0, 0, 0, 0⟩) 43 _ _ rfl rfl rfl rfl rfl (by kernel_rfl) honeP (fun wA hA _ => ?_); have HS := Lib.hid hA; clear hA)
  exact bodyPost_ret (v := .tuple #[.agg (enP ⟨0, av, 0, 0, 0, 0⟩).toArray, .bool true]) (res_cell_tmp Try.results27 rfl rfl (HS.out.blk 0 rfl).range Try.underlying43 rfl (by kernel_rfl)) rfl ⟨rfl, HS.out.fr⟩
set_option maxRecDepth 100000 in
set_option maxHeartbeats 4000000 in
theorem pask_limbo {w0 w : World} {R : List Thing} (b : Nat) (c : Cfg) (hok : Y.Ok c) (seq : Int) (p : P.St) (hp : P.Ok c p) (h0 : p.s = 0) (h1 : c.t + 1 < p.next) (hS : Sep w0 w (poolT c seq b p :: R)) :
    Calls Try.prog 27 #[.pointer (some ⟨b, 0, none⟩)] w fun e w' => e = .returned (.tuple #[.agg (enP (⟨0, at_ c 15 (p.next - c.t - 2) 0, 0, 0, 0, 0⟩)).toArray, .bool true]) ∧ Fr [] w w' := by
  have hnb := hp.next
  have hsb := hp.s
  have ht8 := hok.t8
  have ht1 := hok.t1
  clear hp
  have HA := Lib.hid (fun w => at_any w c hok 15 (p.next - c.t - 2) 0)
  generalize at_ c 15 (p.next - c.t - 2) 0 = av at *
  obtain ⟨mb, la, lc, h2⟩ := poolT_of hS
  have hsz : (mapCells c).length = 24 := rfl
  have HCF := Lib.hid (fun w => pcfg_any w c)
  have HFD := Lib.hid (fun w => cfgV_field c w)
  have KF := Lib.hid (P.pf hsz seq (.map (some mb)) (.slice la p.lim.length lc) p)
  have HB := Lib.hid (h2.blk 0 rfl)
  unfold mapV at *
  generalize hcf : cfgV c = cf at *
  clear hcf
  generalize mapCells c = cs at *
  have hbw := HB.out.lt
  have HS := Lib.hid ((Sep.nil (Fr.refl [] w)).new 43 (enP p0))
  clear h2 hS
  unfold P.poolL at HB KF
  obtain ⟨pn, pf, pwt, pwl, nt, nl, lim, ps⟩ := p
  dsimp only at *
  subst h0
  have d1 : decide (pn < c.t) = false := by simp; omega
  have d2 : (pn == c.t) = false := by simp; omega
  have d3 : (pn == c.t + 1) = false := by simp; omega
  have hB1 := HB.out.fr HS.out.fr (by simp)
  have kf := KF.out
  have k25 := (hB1.cell 25).trans kf.next
  have k32 := (hB1.cell 32).trans kf.s
  have kl := hB1.lt
  clear kf
  have hne : ¬ b = w.heap.size := by omega
  go_enter Try.func27, Try.ntmps27
  go_wp2_with (refine wpList_load_any 31 _ rfl rfl _ 0 rfl cs _ (Blk.pre hB1) Try.underlying31 rfl (by rw [hsz]; kernel_rfl) ?_)
  refine (HCF.out _).mono ?_
  rintro e w2 ⟨rfl, hf⟩
  have HS := Lib.hid (HS.out.fr0 hf); clear hf hB1 k25 k32 kl
  have hB1 := HB.out.fr HS.out.fr (by simp)
  have kf := KF.out
  have k25 := (hB1.cell 25).trans kf.next
  have k32 := (hB1.cell 32).trans kf.s
  have kl := hB1.lt
  clear kf
  have hfl := fun w => (HFD.out w).1
  go_wp2_with fail
  have hmd := hB1.drew
  refine wp_region_fr [(1, [0, 1, 2, 3, 4, 5, 6, 7, 8, 9, 10]), (3, [11]), (0, [12]), (3, [13]), (0, [14])] [w.heap.size] (by kernel_rfl) (by kernel_rfl) ?_
  simp only [theOps, nthOp, List.map_cons, List.map_nil, Array.getD_eq_getD_getElem?, List.getElem?_toArray, List.getElem?_cons_succ, List.getElem?_cons_zero, Option.getD_some]
  refine wpSegs_soft ?_
  iterate 3 (first | go_big_quiet_step (fail) | quiet_step (fail))
  refine wpQuiet_load_mid 31 _ b 0 cs _ rfl rfl rfl (rangeAt_pre hmd (by simp <;> omega)) Try.underlying31 rfl (by rw [hsz]; kernel_rfl) ?_
  simp only [Act.put, List.setIfInBounds_toArray, List.set_cons_zero, List.set_cons_succ]
  repeat (first | go_big_quiet_step (fail) | quiet_step (fail))
  refine wpQuiet_nil ?_
  refine wpSegs_hard ?_
  go_wp2_with fail
  refine (HA.out _).mono ?_
  rintro e w3 ⟨rfl, hf⟩
  have HS := Lib.hid (HS.out.drew.fr0 hf); clear hf
  go_wp2_with fail
  repeat ((first | refine wpSegs_soft ?_ | refine wpSegs_pure ?_ | refine wpSegs_here ?_); (repeat (first | go_big_quiet_step (fail) | quiet_step (fail))); refine wpQuiet_nil ?_)
  refine wpSegs_hard ?_
  have honeP := enP_one ⟨0, av, 0, 0, 0, 0⟩
  refine wpList_store_sep HS.out 0 rfl (enP ⟨0, av, 0, 0, 0, 0⟩) 43 _ _ rfl rfl rfl rfl rfl (by kernel_rfl) honeP (fun wA hA _ => ?_)
  have HS := Lib.hid hA; clear hA
  go_wp2_with fail
  repeat ((first | refine wpSegs_soft ?_ | refine wpSegs_pure ?_ | refine wpSegs_here ?_); (repeat (first | go_big_quiet_step (fail) | quiet_step (fail))); refine wpQuiet_nil ?_)
  refine wpSegs_done ?_
  go_wp2_with fail
  exact bodyPost_ret (v := .tuple #[.agg (enP ⟨0, av, 0, 0, 0, 0⟩).toArray, .bool true]) (res_cell_tmp Try.results27 rfl rfl (HS.out.blk 0 rfl).range Try.underlying43 rfl (by kernel_rfl)) rfl ⟨rfl, HS.out.fr⟩
theorem pask_of {w0 w : World} {R : List Thing} (b : Nat) (c : Cfg) (hok : Y.Ok c) (seq : Int) (p : P.St) (hp : P.Ok c p) (hS : Sep w0 w (poolT c seq b p :: R)) :
    Calls Try.prog 27 #[.pointer (some ⟨b, 0, none⟩)] w fun e w' => e = .returned (.tuple #[.agg (enP (P.ask c p).1).toArray, .bool (P.ask c p).2]) ∧ Fr [] w w' := by
  unfold P.ask
  by_cases h0 : p.s = 0
  · rw [if_neg (by simpa using h0)]
    by_cases h1 : p.next < c.t
    · rw [if_pos h1]; exact pask_slot b c hok seq p hp h0 h1 hS
    rw [if_neg h1]
    by_cases h2 : p.next = c.t
    · rw [if_pos h2]; exact pask_top b c hok seq p hp h0 h2 hS
    rw [if_neg h2]
    by_cases h3 : p.next = c.t + 1
    · rw [if_pos h3]; exact pask_lim b c hok seq p hp h0 h3 hS
    rw [if_neg h3]
    exact pask_limbo b c hok seq p hp h0 (by omega) hS
  · rw [if_pos h0]; exact pask_no b c hok seq p hp h0 hS
end Go.Proofs.Ytccioehckfdjdaa
