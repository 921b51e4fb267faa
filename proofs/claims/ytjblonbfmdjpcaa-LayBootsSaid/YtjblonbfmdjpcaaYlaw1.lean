/- The laws LayPlaces, LayBack, LayApart, walked. -/
import Derived.Test.YtjblonbfmdjpcaaYalive
import Derived.Test.YtjblonbfmdjpcaaYrat
set_option linter.unusedSimpArgs false
set_option linter.unusedVariables false
namespace Go.Tum.Y
theorem oneCfg (c : Cfg) : ∀ v ∈ cfgL c, v.oneCell' = true := by simp [cfgL, Value.oneCell']
end Go.Tum.Y
namespace Go.Proofs.Ytjblonbfmdjpcaa
open Go.RowKit Go.Tum Go.Tum.Y
set_option maxRecDepth 100000 in
set_option maxHeartbeats 4000000 in
theorem places_bad (w : World) (c : Cfg) (h : ¬ Ok c) (kind i k : Int) : Calls Try.prog 3 #[cfgV c, .int .i64 kind, .int .i64 i, .int .i64 k] w fun e w' => e = .returned (.bool true) ∧ Fr [] w w' := by
  have HO : Hid (∀ w, Calls Try.prog 9 #[.agg (cfgL c).toArray] w fun e w' => e = .returned (.tuple #[zeroV, .int .i64 1]) ∧ Fr [] w w') := fun w => of_bad w c h
  have hrc : right c = false := by unfold right; simpa using h
  have hszz : zeroMap.length = 24 := rfl
  have honez := oneZero
  unfold zeroV at HO
  have HS := Lib.hid ((Sep.nil (Fr.refl [] w)).new 24 (cfgL c))
  have HR : Hid (∀ w, Calls Try.prog 10 #[.agg (cfgL c).toArray] w fun e w' => e = .returned (.bool (right c)) ∧ Fr [] w w') := fun w => rright_any w c
  have hsz6 : (cfgL c).length = 6 := rfl
  rw [show cfgV c = .agg (cfgL c).toArray from rfl]
  go_enter Try.func3, Try.ntmps3
  go_wp2_with fail
  refine (alive_any _).mono ?_
  rintro e w1 ⟨rfl, hf⟩
  have HS := Lib.hid (HS.out.fr0 hf)
  clear hf
  go_wp2_with (first | (refine wpList_load_any 24 _ rfl rfl _ 0 rfl (cfgL c) _ (HS.out.blk 0 rfl).range Try.underlying24 rfl (by rw [hsz6]; kernel_rfl) ?_))
  generalize zeroMap = zs at *
  generalize cfgL c = cl at *
  refine (HO.out _).mono ?_
  rintro e w1 ⟨rfl, hf⟩
  have HS := Lib.hid (HS.out.fr0 hf)
  clear hf
  have HS := Lib.hid (HS.out.new 28 zs)
  go_wp2_with (first | (refine wpList_store_new 28 _ (zs).toArray rfl _ _ rfl rfl rfl (by rw [List.size_toArray, hszz]; kernel_rfl) (by simp [hszz]) (all_oneCell_toArray honez) ?_) | (refine wpList_load_any 24 _ rfl rfl _ 0 rfl cl _ (HS.out.blk 1 rfl).range Try.underlying24 rfl (by rw [hsz6]; kernel_rfl) ?_))
  refine (HR.out _).mono ?_
  rintro e w1 ⟨rfl, hf⟩
  have HS := Lib.hid (HS.out.fr0 hf)
  clear hf
  rw [hrc]
  go_wp2_with fail
  go_ret
  exact ⟨rfl, HS.out.fr⟩
set_option maxRecDepth 100000 in
set_option maxHeartbeats 4000000 in
theorem places_good (w : World) (c : Cfg) (h : Ok c) (kind i k : Int) : Calls Try.prog 3 #[cfgV c, .int .i64 kind, .int .i64 i, .int .i64 k] w fun e w' => e = .returned (.bool true) ∧ Fr [] w w' := by
  have HO : Hid (∀ w, Calls Try.prog 9 #[.agg (cfgL c).toArray] w fun e w' => e = .returned (.tuple #[mapV c, .int .i64 0]) ∧ Fr [] w w') := fun w => of_good w c h
  have hrc : right c = true := by unfold right; simpa using h
  have hsz : (mapCells c).length = 24 := rfl
  have hone := oneCells c
  have HAT := Lib.hid (fun w kd i k => at_any w c h kd i k)
  have H1 : Hid (∀ w, Calls Try.prog 13 #[.agg (cfgL c).toArray] w fun e w' => e = .returned (.int .i64 (limit c)) ∧ Fr [] w w') := fun w => rlimit_any w c h
  have H2 : Hid (∀ w, Calls Try.prog 15 #[.agg (cfgL c).toArray] w fun e w' => e = .returned (.int .i64 (cap c)) ∧ Fr [] w w') := fun w => rcap_any w c h
  have H3 : Hid (∀ w, Calls Try.prog 17 #[.agg (cfgL c).toArray] w fun e w' => e = .returned (.int .i64 (stride c)) ∧ Fr [] w w') := fun w => rstride_any w c h
  have H4 : Hid (∀ w, Calls Try.prog 19 #[.agg (cfgL c).toArray] w fun e w' => e = .returned (.int .i64 (size c)) ∧ Fr [] w w') := fun w => rsize_any w c h
  have H5 : Hid (∀ w, Calls Try.prog 21 #[.agg (cfgL c).toArray, .int .i64 kind, .int .i64 i, .int .i64 k] w fun e w' => e = .returned (.int .i64 (at_ c kind i k)) ∧ Fr [] w w') := fun w => rat_any w c h kind i k
  have K0 := Lib.hid (fun w => cfg_any w c)
  have K1 := Lib.hid (fun w => limit_any w c h)
  have K2 := Lib.hid (fun w => cap_any w c h)
  have K3 := Lib.hid (fun w => stride_any w c h)
  have K5 := Lib.hid (fun w => at_any w c h kind i k)
  have K4 := Lib.hid (fun w => msize_cs w (mapCells c) (size c) rfl rfl)
  unfold mapV at *
  have HS := Lib.hid ((Sep.nil (Fr.refl [] w)).new 24 (cfgL c))
  have HR : Hid (∀ w, Calls Try.prog 10 #[.agg (cfgL c).toArray] w fun e w' => e = .returned (.bool (right c)) ∧ Fr [] w w') := fun w => rright_any w c
  have hsz6 : (cfgL c).length = 6 := rfl
  rw [show cfgV c = .agg (cfgL c).toArray from rfl]
  go_enter Try.func3, Try.ntmps3
  go_wp2_with fail
  refine (alive_any _).mono ?_
  rintro e w1 ⟨rfl, hf⟩
  have HS := Lib.hid (HS.out.fr0 hf)
  clear hf
  go_wp2_with (first | (refine wpList_load_any 24 _ rfl rfl _ 0 rfl (cfgL c) _ (HS.out.blk 0 rfl).range Try.underlying24 rfl (by rw [hsz6]; kernel_rfl) ?_))
  generalize limit c = v1, cap c = v2, stride c = v3, size c = v4, at_ c kind i k = v5 at *
  refine (HO.out _).mono ?_
  rintro e w1 ⟨rfl, hf⟩
  have HS := Lib.hid (HS.out.fr0 hf)
  clear hf
  have HS := Lib.hid (HS.out.new 28 (mapCells c))
  go_wp2_with (first | (refine wpList_store_new 28 _ ((mapCells c)).toArray rfl _ _ rfl rfl rfl (by rw [List.size_toArray, hsz]; kernel_rfl) (by simp [hsz]) (all_oneCell_toArray hone) ?_) | (refine wpList_load_any 24 _ rfl rfl _ 0 rfl (cfgL c) _ (HS.out.blk 1 rfl).range Try.underlying24 rfl (by rw [hsz6]; kernel_rfl) ?_))
  refine (HR.out _).mono ?_
  rintro e w1 ⟨rfl, hf⟩
  have HS := Lib.hid (HS.out.fr0 hf)
  clear hf
  rw [hrc]
  go_wp2_with fail
  have hmd := (HS.out.blk 0 rfl).drew
  have hmc := (HS.out.blk 1 rfl).drew
  refine wp_region_fr [(1, [0, 1, 2, 3, 5]), (2, [4]), (1, [6, 7, 8, 9, 11]), (2, [10]), (2, [12]), (1, [13, 14, 15, 16, 18]), (2, [17]), (2, [19]), (1, [20, 21, 22, 23, 25]), (2, [24]), (2, [26]), (1, [27, 28, 29, 30, 32]), (2, [31]), (2, [33]), (1, [34, 35, 36, 37, 38, 39, 40, 42, 43, 44, 45]), (2, [41]), (2, [46]), (0, [47, 48, 49])] [] (by kernel_rfl) (by kernel_rfl) ?_
  simp only [theOps, nthOp, List.map_cons, List.map_nil, Array.getD_eq_getD_getElem?, List.getElem?_toArray, List.getElem?_cons_succ, List.getElem?_cons_zero, Option.getD_some]
  refine wpSegs_soft ?_
  repeat (first | (refine wpQuiet_load_mid 28 _ _ 0 (mapCells c) _ rfl rfl rfl (rangeAt_after hmd (by simp)) Try.underlying28 rfl (by rw [hsz]; kernel_rfl) ?_; simp only [Act.put, List.setIfInBounds_toArray, List.set_cons_zero, List.set_cons_succ]) | (refine wpQuiet_load_mid 24 _ _ 0 (cfgL c) _ rfl rfl rfl (rangeAt_after hmc (by simp)) Try.underlying24 rfl (by rw [hsz6]; kernel_rfl) ?_; simp only [Act.put, List.setIfInBounds_toArray, List.set_cons_zero, List.set_cons_succ]) | go_big_quiet_step (fail) | quiet_step (fail))
  refine wpQuiet_nil ?_
  refine wpSegs_keep ?_
  go_wp2_with fail
  refine (K0.out _).mono ?_
  rintro e w2 ⟨rfl, hf⟩
  unfold cfgV cfgL
  have HF := Lib.hid hf; clear hf
  go_wp2_with fail
  refine ⟨⟨⟨_, (by exact HF.out)⟩, rfl⟩, ?_⟩
  refine wpSegs_soft ?_
  repeat (first | (refine wpQuiet_load_mid 28 _ _ 0 (mapCells c) _ rfl rfl rfl (rangeAt_after hmd (by simp)) Try.underlying28 rfl (by rw [hsz]; kernel_rfl) ?_; simp only [Act.put, List.setIfInBounds_toArray, List.set_cons_zero, List.set_cons_succ]) | (refine wpQuiet_load_mid 24 _ _ 0 (cfgL c) _ rfl rfl rfl (rangeAt_after hmc (by simp)) Try.underlying24 rfl (by rw [hsz6]; kernel_rfl) ?_; simp only [Act.put, List.setIfInBounds_toArray, List.set_cons_zero, List.set_cons_succ]) | go_big_quiet_step (fail) | quiet_step (fail))
  refine wpQuiet_nil ?_
  refine wpSegs_keep ?_
  go_wp2_with fail
  refine (K1.out _).mono ?_
  rintro e w2 ⟨rfl, hf⟩
  have HF := Lib.hid (HF.out.trans hf); clear hf
  go_wp2_with fail
  refine ⟨⟨⟨_, (by exact HF.out)⟩, rfl⟩, ?_⟩
  refine wpSegs_keep ?_
  go_wp2_with fail
  refine (H1.out _).mono ?_
  rintro e w2 ⟨rfl, hf⟩
  have HF := Lib.hid (HF.out.trans hf); clear hf
  go_wp2_with fail
  refine ⟨⟨⟨_, (by exact HF.out)⟩, rfl⟩, ?_⟩
  refine wpSegs_soft ?_
  repeat (first | (refine wpQuiet_load_mid 28 _ _ 0 (mapCells c) _ rfl rfl rfl (rangeAt_after hmd (by simp)) Try.underlying28 rfl (by rw [hsz]; kernel_rfl) ?_; simp only [Act.put, List.setIfInBounds_toArray, List.set_cons_zero, List.set_cons_succ]) | (refine wpQuiet_load_mid 24 _ _ 0 (cfgL c) _ rfl rfl rfl (rangeAt_after hmc (by simp)) Try.underlying24 rfl (by rw [hsz6]; kernel_rfl) ?_; simp only [Act.put, List.setIfInBounds_toArray, List.set_cons_zero, List.set_cons_succ]) | go_big_quiet_step (fail) | quiet_step (fail))
  refine wpQuiet_nil ?_
  refine wpSegs_keep ?_
  go_wp2_with fail
  refine (K2.out _).mono ?_
  rintro e w2 ⟨rfl, hf⟩
  have HF := Lib.hid (HF.out.trans hf); clear hf
  go_wp2_with fail
  refine ⟨⟨⟨_, (by exact HF.out)⟩, rfl⟩, ?_⟩
  refine wpSegs_keep ?_
  go_wp2_with fail
  refine (H2.out _).mono ?_
  rintro e w2 ⟨rfl, hf⟩
  have HF := Lib.hid (HF.out.trans hf); clear hf
  go_wp2_with fail
  refine ⟨⟨⟨_, (by exact HF.out)⟩, rfl⟩, ?_⟩
  refine wpSegs_soft ?_
  repeat (first | (refine wpQuiet_load_mid 28 _ _ 0 (mapCells c) _ rfl rfl rfl (rangeAt_after hmd (by simp)) Try.underlying28 rfl (by rw [hsz]; kernel_rfl) ?_; simp only [Act.put, List.setIfInBounds_toArray, List.set_cons_zero, List.set_cons_succ]) | (refine wpQuiet_load_mid 24 _ _ 0 (cfgL c) _ rfl rfl rfl (rangeAt_after hmc (by simp)) Try.underlying24 rfl (by rw [hsz6]; kernel_rfl) ?_; simp only [Act.put, List.setIfInBounds_toArray, List.set_cons_zero, List.set_cons_succ]) | go_big_quiet_step (fail) | quiet_step (fail))
  refine wpQuiet_nil ?_
  refine wpSegs_keep ?_
  go_wp2_with fail
  refine (K3.out _).mono ?_
  rintro e w2 ⟨rfl, hf⟩
  have HF := Lib.hid (HF.out.trans hf); clear hf
  go_wp2_with fail
  refine ⟨⟨⟨_, (by exact HF.out)⟩, rfl⟩, ?_⟩
  refine wpSegs_keep ?_
  go_wp2_with fail
  refine (H3.out _).mono ?_
  rintro e w2 ⟨rfl, hf⟩
  have HF := Lib.hid (HF.out.trans hf); clear hf
  go_wp2_with fail
  refine ⟨⟨⟨_, (by exact HF.out)⟩, rfl⟩, ?_⟩
  refine wpSegs_soft ?_
  repeat (first | (refine wpQuiet_load_mid 28 _ _ 0 (mapCells c) _ rfl rfl rfl (rangeAt_after hmd (by simp)) Try.underlying28 rfl (by rw [hsz]; kernel_rfl) ?_; simp only [Act.put, List.setIfInBounds_toArray, List.set_cons_zero, List.set_cons_succ]) | (refine wpQuiet_load_mid 24 _ _ 0 (cfgL c) _ rfl rfl rfl (rangeAt_after hmc (by simp)) Try.underlying24 rfl (by rw [hsz6]; kernel_rfl) ?_; simp only [Act.put, List.setIfInBounds_toArray, List.set_cons_zero, List.set_cons_succ]) | go_big_quiet_step (fail) | quiet_step (fail))
  refine wpQuiet_nil ?_
  refine wpSegs_keep ?_
  go_wp2_with fail
  refine (K4.out _).mono ?_
  rintro e w2 ⟨rfl, hf⟩
  have HF := Lib.hid (HF.out.trans hf); clear hf
  go_wp2_with fail
  refine ⟨⟨⟨_, (by exact HF.out)⟩, rfl⟩, ?_⟩
  refine wpSegs_keep ?_
  go_wp2_with fail
  refine (H4.out _).mono ?_
  rintro e w2 ⟨rfl, hf⟩
  have HF := Lib.hid (HF.out.trans hf); clear hf
  go_wp2_with fail
  refine ⟨⟨⟨_, (by exact HF.out)⟩, rfl⟩, ?_⟩
  refine wpSegs_soft ?_
  repeat (first | (refine wpQuiet_load_mid 28 _ _ 0 (mapCells c) _ rfl rfl rfl (rangeAt_after hmd (by simp)) Try.underlying28 rfl (by rw [hsz]; kernel_rfl) ?_; simp only [Act.put, List.setIfInBounds_toArray, List.set_cons_zero, List.set_cons_succ]) | (refine wpQuiet_load_mid 24 _ _ 0 (cfgL c) _ rfl rfl rfl (rangeAt_after hmc (by simp)) Try.underlying24 rfl (by rw [hsz6]; kernel_rfl) ?_; simp only [Act.put, List.setIfInBounds_toArray, List.set_cons_zero, List.set_cons_succ]) | go_big_quiet_step (fail) | quiet_step (fail))
  refine wpQuiet_nil ?_
  refine wpSegs_keep ?_
  go_wp2_with fail
  refine (K5.out _).mono ?_
  rintro e w2 ⟨rfl, hf⟩
  have HF := Lib.hid (HF.out.trans hf); clear hf
  go_wp2_with fail
  refine ⟨⟨⟨_, (by exact HF.out)⟩, rfl⟩, ?_⟩
  refine wpSegs_keep ?_
  go_wp2_with fail
  refine (H5.out _).mono ?_
  rintro e w2 ⟨rfl, hf⟩
  have HF := Lib.hid (HF.out.trans hf); clear hf
  go_wp2_with fail
  refine ⟨⟨⟨_, (by exact HF.out)⟩, rfl⟩, ?_⟩
  repeat ((first | refine wpSegs_soft ?_ | refine wpSegs_pure ?_ | refine wpSegs_here ?_); (repeat (first | go_big_quiet_step (fail) | quiet_step (fail))); refine wpQuiet_nil ?_)
  refine wpSegs_done ?_
  go_wp2_with fail
  go_ret
  exact ⟨rfl, HS.out.fr.drew.trans HF.out⟩
theorem places_law (w : World) (c : Cfg) (kind i k : Int) : Calls Try.prog 3 #[cfgV c, .int .i64 kind, .int .i64 i, .int .i64 k] w fun e w' => e = .returned (.bool true) ∧ Fr [] w w' := by
  by_cases h : Ok c
  · exact places_good w c h kind i k
  · exact places_bad w c h kind i k

theorem places_row (a b d f g l kind i k : Int) (w : World) : Calls Try.prog 3 #[.agg #[.int .i64 a, .int .i64 b, .int .i64 d, .int .i64 f, .int .u64 g, .int .u64 l], .int .i64 kind, .int .i64 i, .int .i64 k] w fun e w' => e = .returned (.bool true) ∧ Fr [] w w' := places_law w ⟨a, b, d, f, g, l⟩ kind i k

/-! ### LayBack, LayApart -/
set_option maxRecDepth 100000 in
set_option maxHeartbeats 4000000 in
theorem back_bad (w : World) (c : Cfg) (h : ¬ Ok c) (kind i k p : Int) : Calls Try.prog 4 #[cfgV c, .int .i64 kind, .int .i64 i, .int .i64 k, .int .i64 p] w fun e w' => e = .returned (.bool true) ∧ Fr [] w w' := by
  have HO : Hid (∀ w, Calls Try.prog 9 #[.agg (cfgL c).toArray] w fun e w' => e = .returned (.tuple #[zeroV, .int .i64 1]) ∧ Fr [] w w') := fun w => of_bad w c h
  have hrc : right c = false := by unfold right; simpa using h
  have hszz : zeroMap.length = 24 := rfl
  have honez := oneZero
  unfold zeroV at HO
  have HS := Lib.hid ((Sep.nil (Fr.refl [] w)).new 24 (cfgL c))
  have HR : Hid (∀ w, Calls Try.prog 10 #[.agg (cfgL c).toArray] w fun e w' => e = .returned (.bool (right c)) ∧ Fr [] w w') := fun w => rright_any w c
  have hsz6 : (cfgL c).length = 6 := rfl
  rw [show cfgV c = .agg (cfgL c).toArray from rfl]
  go_enter Try.func4, Try.ntmps4
  go_wp2_with fail
  refine (alive_any _).mono ?_
  rintro e w1 ⟨rfl, hf⟩
  have HS := Lib.hid (HS.out.fr0 hf)
  clear hf
  go_wp2_with (first | (refine wpList_load_any 24 _ rfl rfl _ 0 rfl (cfgL c) _ (HS.out.blk 0 rfl).range Try.underlying24 rfl (by rw [hsz6]; kernel_rfl) ?_))
  generalize zeroMap = zs at *
  generalize cfgL c = cl at *
  refine (HO.out _).mono ?_
  rintro e w1 ⟨rfl, hf⟩
  have HS := Lib.hid (HS.out.fr0 hf)
  clear hf
  have HS := Lib.hid (HS.out.new 28 zs)
  go_wp2_with (first | (refine wpList_store_new 28 _ (zs).toArray rfl _ _ rfl rfl rfl (by rw [List.size_toArray, hszz]; kernel_rfl) (by simp [hszz]) (all_oneCell_toArray honez) ?_) | (refine wpList_load_any 24 _ rfl rfl _ 0 rfl cl _ (HS.out.blk 1 rfl).range Try.underlying24 rfl (by rw [hsz6]; kernel_rfl) ?_))
  refine (HR.out _).mono ?_
  rintro e w1 ⟨rfl, hf⟩
  have HS := Lib.hid (HS.out.fr0 hf)
  clear hf
  rw [hrc]
  go_wp2_with fail
  go_ret
  exact ⟨rfl, HS.out.fr⟩
set_option maxRecDepth 100000 in
set_option maxHeartbeats 4000000 in
theorem apart_bad (w : World) (c : Cfg) (h : ¬ Ok c) (kind i k kind' i' k' : Int) : Calls Try.prog 6 #[cfgV c, .int .i64 kind, .int .i64 i, .int .i64 k, .int .i64 kind', .int .i64 i', .int .i64 k'] w fun e w' => e = .returned (.bool true) ∧ Fr [] w w' := by
  have HO : Hid (∀ w, Calls Try.prog 9 #[.agg (cfgL c).toArray] w fun e w' => e = .returned (.tuple #[zeroV, .int .i64 1]) ∧ Fr [] w w') := fun w => of_bad w c h
  have hrc : right c = false := by unfold right; simpa using h
  have hszz : zeroMap.length = 24 := rfl
  have honez := oneZero
  unfold zeroV at HO
  have HS := Lib.hid ((Sep.nil (Fr.refl [] w)).new 24 (cfgL c))
  have HR : Hid (∀ w, Calls Try.prog 10 #[.agg (cfgL c).toArray] w fun e w' => e = .returned (.bool (right c)) ∧ Fr [] w w') := fun w => rright_any w c
  have hsz6 : (cfgL c).length = 6 := rfl
  rw [show cfgV c = .agg (cfgL c).toArray from rfl]
  go_enter Try.func6, Try.ntmps6
  go_wp2_with fail
  refine (alive_any _).mono ?_
  rintro e w1 ⟨rfl, hf⟩
  have HS := Lib.hid (HS.out.fr0 hf)
  clear hf
  go_wp2_with (first | (refine wpList_load_any 24 _ rfl rfl _ 0 rfl (cfgL c) _ (HS.out.blk 0 rfl).range Try.underlying24 rfl (by rw [hsz6]; kernel_rfl) ?_))
  generalize zeroMap = zs at *
  generalize cfgL c = cl at *
  refine (HO.out _).mono ?_
  rintro e w1 ⟨rfl, hf⟩
  have HS := Lib.hid (HS.out.fr0 hf)
  clear hf
  have HS := Lib.hid (HS.out.new 28 zs)
  go_wp2_with (first | (refine wpList_store_new 28 _ (zs).toArray rfl _ _ rfl rfl rfl (by rw [List.size_toArray, hszz]; kernel_rfl) (by simp [hszz]) (all_oneCell_toArray honez) ?_) | (refine wpList_load_any 24 _ rfl rfl _ 0 rfl cl _ (HS.out.blk 1 rfl).range Try.underlying24 rfl (by rw [hsz6]; kernel_rfl) ?_))
  refine (HR.out _).mono ?_
  rintro e w1 ⟨rfl, hf⟩
  have HS := Lib.hid (HS.out.fr0 hf)
  clear hf
  rw [hrc]
  go_wp2_with fail
  go_ret
  exact ⟨rfl, HS.out.fr⟩
theorem place_lin {c : Cfg} {kd i k l : Int} (h1 : Is c kd i k) (h2 : Is c kd i l) : place c kd i l - place c kd i k = l - k := by
  have hk := is_kind h1
  obtain ⟨_, _, a0, a1⟩ := h1
  obtain ⟨_, _, b0, b1⟩ := h2
  rcases kinds_ hk with rfl | rfl | rfl | rfl | rfl | rfl | rfl | rfl | rfl | rfl | rfl | rfl | rfl | rfl | rfl | rfl | rfl <;> simp [eachP, each] at a1 b1 <;> simp [place, ownOf, fromP, each] <;> omega
end Go.Proofs.Ytjblonbfmdjpcaa
