/- The law's own example. -/
import Derived.Test.YtjblonbfmdjpcaaYboot
import Derived.Test.YtjblonbfmdjpcaaLoad2
set_option linter.unusedSimpArgs false
set_option linter.unusedVariables false
namespace Go.Tum.Y
def cA : Cfg := ⟨2, 3, 4, 5, 6, 7⟩
def cZ : Cfg := ⟨0, 0, 0, 0, 0, 0⟩
theorem okA : Ok cA := ⟨by decide, by decide, by decide, by decide, by decide, by decide, by decide, by decide, by decide, by decide⟩
theorem noZ : ¬ Ok cZ := fun h => absurd h.t1 (by decide)
theorem oneCells (c : Cfg) : ∀ v ∈ mapCells c, v.oneCell' = true := by simp [mapCells, Value.oneCell']
theorem oneZero : ∀ v ∈ zeroMap, v.oneCell' = true := by simp [zeroMap, Value.oneCell']
end Go.Tum.Y
namespace Go.Proofs.Ytjblonbfmdjpcaa
open Go.RowKit Go.Tum Go.Tum.Y
set_option maxRecDepth 100000 in
set_option maxHeartbeats 4000000 in
theorem alive_any (w : World) : Calls Try.prog 8 #[] w fun e w' => e = .returned (.bool true) ∧ Fr [] w w' := by
  have HOF : Hid (∀ w, Calls Try.prog 9 #[.agg #[.int .i64 2, .int .i64 3, .int .i64 4, .int .i64 5, .int .u64 6, .int .u64 7]] w fun e w' => e = .returned (.tuple #[mapV cA, .int .i64 0]) ∧ Fr [] w w') := fun w => of_good w cA okA
  have HOZ : Hid (∀ w, Calls Try.prog 9 #[.agg #[.int .i64 0, .int .i64 0, .int .i64 0, .int .i64 0, .int .u64 0, .int .u64 0]] w fun e w' => e = .returned (.tuple #[zeroV, .int .i64 1]) ∧ Fr [] w w') := fun w => of_bad w cZ noZ
  have HA1 : Hid (∀ w, Calls Try.prog 20 #[mapV cA, .int .i64 16, .int .i64 2, .int .i64 7] w fun e w' => e = .returned (.int .i64 172) ∧ Fr [] w w') := fun w => by
    have := at_any w cA okA 16 2 7; rwa [show at_ cA 16 2 7 = 172 by decide] at this
  have HA2 : Hid (∀ w, Calls Try.prog 20 #[mapV cA, .int .i64 12, .int .i64 0, .int .i64 0] w fun e w' => e = .returned (.int .i64 134) ∧ Fr [] w w') := fun w => by
    have := at_any w cA okA 12 0 0; rwa [show at_ cA 12 0 0 = 134 by decide] at this
  have HA3 : Hid (∀ w, Calls Try.prog 20 #[mapV cA, .int .i64 16, .int .i64 3, .int .i64 0] w fun e w' => e = .returned (.int .i64 (-1)) ∧ Fr [] w w') := fun w => by
    have := at_any w cA okA 16 3 0; rwa [show at_ cA 16 3 0 = -1 by decide] at this
  have HW : Hid (∀ w, Calls Try.prog 22 #[mapV cA, .int .i64 172] w fun e w' => e = .returned (.tuple #[.int .i64 16, .int .i64 2, .int .i64 7]) ∧ Fr [] w w') := fun w => what_16 w cA 172 2 7 okA (by decide) (by decide) (by decide) (by decide)
  have HB : Hid (∀ w, Calls Try.prog 24 #[mapV cA] w fun e w' => ∃ b g cap, e = .returned (.pointer (some ⟨b, 0, none⟩)) ∧ Sep w w' [blkT b 68 (memL g 173 cap), rowT 0 52 2 (.slice (some ⟨g, 0, none⟩) (173 : Nat) cap) 173 (flat enC (bootL cA))]) := fun w => boot_any w cA okA
  have hbl : (bootL cA).length = 173 := by decide
  have hb0 : (bootL cA)[0]? = some (0, 6) := by decide
  have hb1 : (bootL cA)[134]? = some (3, 0) := by decide
  have HB0 := Lib.hid hb0
  have HB1 := Lib.hid hb1
  clear hb0 hb1
  have HLI : Hid (∀ w, Calls Try.prog 12 #[mapV cA] w fun e w' => e = .returned (.int .i64 10) ∧ Fr [] w w') := fun w => limit_any w cA okA
  have HCA : Hid (∀ w, Calls Try.prog 14 #[mapV cA] w fun e w' => e = .returned (.int .i64 46) ∧ Fr [] w w') := fun w => cap_any w cA okA
  have HST : Hid (∀ w, Calls Try.prog 16 #[mapV cA] w fun e w' => e = .returned (.int .i64 54) ∧ Fr [] w w') := fun w => stride_any w cA okA
  have HSZ : Hid (∀ w, Calls Try.prog 18 #[mapV cA] w fun e w' => e = .returned (.int .i64 173) ∧ Fr [] w w') := fun w => msize_cs w (mapCells cA) 173 rfl rfl
  have HCF : Hid (∀ w, Calls Try.prog 11 #[mapV cA] w fun e w' => e = .returned (.agg #[.int .i64 2, .int .i64 3, .int .i64 4, .int .i64 5, .int .u64 6, .int .u64 7]) ∧ Fr [] w w') := fun w => cfg_any w cA
  have hsz : (mapCells cA).length = 24 := rfl
  have hszz : zeroMap.length = 24 := rfl
  have hone := oneCells cA
  have honez := oneZero
  have hfl : ∀ w, (Instr.field 24 (.agg #[.int .i64 2, .int .i64 3, .int .i64 4, .int .i64 5, .int .u64 6, .int .u64 7]) 1).run Try.prog w = .ok (.int .i64 3) w := fun w => run_field_cell w _ _ _ _ _ _ _ Try.underlying24 rfl Try.underlying3 rfl rfl
  generalize bootL cA = bl at *
  unfold mapV zeroV at *
  generalize mapCells cA = cs at *
  generalize zeroMap = zs at *
  go_enter Try.func8, Try.ntmps8
  go_wp2_with fail
  refine (HOF.out _).mono ?_
  rintro e w1 ⟨rfl, hf⟩
  have HS := Lib.hid ((Sep.nil hf).new 28 cs); clear hf
  go_wp2_with (first | (refine wpList_store_new 28 _ (cs).toArray rfl _ _ rfl rfl rfl (by rw [List.size_toArray, hsz]; kernel_rfl) (by simp [hsz]) (all_oneCell_toArray hone) ?_))
  generalize w1.heap.size = q at *
  refine (HOZ.out _).mono ?_
  rintro e w2 ⟨rfl, hf⟩
  have HS := Lib.hid ((HS.out.fr0 hf).new 28 zs); clear hf
  go_wp2_with (first | (refine wpList_store_new 28 _ (zs).toArray rfl _ _ rfl rfl rfl (by rw [List.size_toArray, hszz]; kernel_rfl) (by simp [hszz]) (all_oneCell_toArray honez) ?_))
  generalize w2.alloc (.cells zs.toArray 28) = w3 at *
  have hmd := (HS.out.blk 1 rfl).drew
  refine wp_region_fr [(1, [0, 1]), (2, [2]), (3, [3]), (0, [4, 5, 6, 7, 8, 9, 10])] [] (by kernel_rfl) (by kernel_rfl) ?_
  simp only [theOps, nthOp, List.map_cons, List.map_nil, Array.getD_eq_getD_getElem?, List.getElem?_toArray, List.getElem?_cons_succ, List.getElem?_cons_zero, Option.getD_some]
  refine wpSegs_soft ?_
  refine wpQuiet_load_mid 28 _ q 0 cs _ rfl rfl rfl (rangeAt_after hmd (by simp)) Try.underlying28 rfl (by rw [hsz]; kernel_rfl) ?_
  simp only [Act.put, List.setIfInBounds_toArray, List.set_cons_zero, List.set_cons_succ]
  refine wpQuiet_load_mid 28 _ q 0 cs _ rfl rfl rfl (rangeAt_after hmd (by simp)) Try.underlying28 rfl (by rw [hsz]; kernel_rfl) ?_
  simp only [Act.put, List.setIfInBounds_toArray, List.set_cons_zero, List.set_cons_succ]
  refine wpQuiet_nil ?_
  refine wpSegs_keep ?_
  go_wp2_with fail
  refine (HA1.out _).mono ?_
  rintro e w4 ⟨rfl, hf⟩
  have HF := Lib.hid hf; clear hf
  go_wp2_with fail
  refine ⟨⟨⟨_, (by exact HF.out)⟩, rfl⟩, ?_⟩
  refine wpSegs_hard ?_
  go_wp2_with fail
  have HS := Lib.hid (HS.out.drew.fr0 HF.out)
  clear HF hmd
  refine (HW.out _).mono ?_
  rintro e w1 ⟨rfl, hf⟩
  have HS := Lib.hid (HS.out.fr0 hf)
  clear hf
  go_wp2_with fail
  repeat ((first | refine wpSegs_soft ?_ | refine wpSegs_pure ?_ | refine wpSegs_here ?_); (repeat (first | go_big_quiet_step (fail) | quiet_step (fail))); refine wpQuiet_nil ?_)
  refine wpSegs_done ?_
  go_wp2_with (first | (refine wpList_load_any 28 _ rfl rfl _ 0 rfl cs _ (HS.out.blk 1 rfl).range Try.underlying28 rfl (by rw [hsz]; kernel_rfl) ?_))
  refine (HB.out _).mono ?_
  rintro e w5 ⟨b, g, cap, rfl, hN⟩
  have HS := Lib.hid (HS.out.append hN); clear hN
  simp only [List.cons_append, List.nil_append] at HS
  go_wp2_with fail
  have hp := mm_peek _ b g 173 cap bl hbl (HS.out.blk 0 rfl) (HS.out.row 1 rfl) 0 (by omega) (by omega)
  rw [show bl[0]'(by omega) = (0, 6) by have := HB0.out; rw [List.getElem?_eq_getElem (by omega)] at this; simpa using this] at hp
  have HP := Lib.hid hp; clear hp
  refine (HP.out).mono ?_
  rintro e w1 ⟨rfl, hf⟩
  have HS := Lib.hid (HS.out.fr0 hf)
  clear hf
  clear HP
  have HS := Lib.hid (HS.out.new 52 [.int .u64 0, .int .u64 6])
  go_wp2_with (first | (refine wpList_load_any 28 _ rfl rfl _ 0 rfl cs _ (HS.out.blk 4 rfl).range Try.underlying28 rfl (by rw [hsz]; kernel_rfl) ?_))
  refine (HA2.out _).mono ?_
  rintro e w1 ⟨rfl, hf⟩
  have HS := Lib.hid (HS.out.fr0 hf)
  clear hf
  go_wp2_with fail
  have hp := mm_peek _ b g 173 cap bl hbl (HS.out.blk 1 rfl) (HS.out.row 2 rfl) 134 (by omega) (by omega)
  rw [show bl[134]'(by omega) = (3, 0) by have := HB1.out; rw [List.getElem?_eq_getElem (by omega)] at this; simpa using this] at hp
  have HP := Lib.hid hp; clear hp
  refine (HP.out).mono ?_
  rintro e w1 ⟨rfl, hf⟩
  have HS := Lib.hid (HS.out.fr0 hf)
  clear hf
  clear HP
  have HS := Lib.hid (HS.out.new 52 [.int .u64 3, .int .u64 0])
  go_wp2_with (first | (refine wpList_load_any 28 _ rfl rfl _ 0 rfl cs _ (HS.out.blk 5 rfl).range Try.underlying28 rfl (by rw [hsz]; kernel_rfl) ?_))
  refine (HLI.out _).mono ?_
  rintro e w1 ⟨rfl, hf⟩
  have HS := Lib.hid (HS.out.fr0 hf)
  clear hf
  go_wp2_with (first | (refine wpList_load_any 28 _ rfl rfl _ 0 rfl cs _ (HS.out.blk 5 rfl).range Try.underlying28 rfl (by rw [hsz]; kernel_rfl) ?_))
  refine (HCA.out _).mono ?_
  rintro e w1 ⟨rfl, hf⟩
  have HS := Lib.hid (HS.out.fr0 hf)
  clear hf
  go_wp2_with (first | (refine wpList_load_any 28 _ rfl rfl _ 0 rfl cs _ (HS.out.blk 5 rfl).range Try.underlying28 rfl (by rw [hsz]; kernel_rfl) ?_))
  refine (HST.out _).mono ?_
  rintro e w1 ⟨rfl, hf⟩
  have HS := Lib.hid (HS.out.fr0 hf)
  clear hf
  go_wp2_with (first | (refine wpList_load_any 28 _ rfl rfl _ 0 rfl cs _ (HS.out.blk 5 rfl).range Try.underlying28 rfl (by rw [hsz]; kernel_rfl) ?_))
  refine (HSZ.out _).mono ?_
  rintro e w1 ⟨rfl, hf⟩
  have HS := Lib.hid (HS.out.fr0 hf)
  clear hf
  have k9 := (HS.out.blk 1 rfl).cell 1
  have k11 := (HS.out.blk 0 rfl).cell 0
  simp only [List.getElem?_cons_zero, List.getElem?_cons_succ] at k9 k11
  go_wp2_with (first | (refine wpList_load_any 28 _ rfl rfl _ 0 rfl cs _ (HS.out.blk 5 rfl).range Try.underlying28 rfl (by rw [hsz]; kernel_rfl) ?_))
  refine (HCF.out _).mono ?_
  rintro e w1 ⟨rfl, hf⟩
  have HS := Lib.hid (HS.out.fr0 hf)
  clear hf
  go_wp2_with (first | (refine wpList_load_any 28 _ rfl rfl _ 0 rfl cs _ (HS.out.blk 5 rfl).range Try.underlying28 rfl (by rw [hsz]; kernel_rfl) ?_))
  refine (HA3.out _).mono ?_
  rintro e w1 ⟨rfl, hf⟩
  have HS := Lib.hid (HS.out.fr0 hf)
  clear hf
  go_wp2_with fail
  go_ret
  exact ⟨rfl, HS.out.fr⟩
end Go.Proofs.Ytjblonbfmdjpcaa
