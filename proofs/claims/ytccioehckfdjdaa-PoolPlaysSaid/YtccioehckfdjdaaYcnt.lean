/- The walks of own and counts. -/
import Derived.Test.YtccioehckfdjdaaYnum
set_option linter.unusedSimpArgs false
set_option linter.unusedVariables false
namespace Go.Tum.Y
/-- How many things of a kind there are. -/
def cnt (c : Cfg) (kind : Int) : Int :=
  if kind = 0 ∨ kind = 12 ∨ kind = 14 then 1 else if 1 ≤ kind ∧ kind ≤ 9 then c.t else if kind = 10 then 16 else if kind = 11 ∨ kind = 13 ∨ kind = 16 then c.b else if kind = 15 then limit c else 0
/-- How many places each has. -/
def each (c : Cfg) (kind : Int) : Int := if kind = 2 then 4 else if kind = 6 then cap c else if kind = 16 then 8 else 1
/-- .. and none where there is no such kind. -/
def eachP (c : Cfg) (kind : Int) : Int := if 0 ≤ kind ∧ kind ≤ 16 then each c kind else 0
def ownOf (kind : Int) : Int := if kind = 1 then 0 else if kind = 2 then 1 else if kind = 3 then 5 else if kind = 4 then 6 else if kind = 5 then 7 else 8
end Go.Tum.Y
namespace Go.Proofs.Ytccioehckfdjdaa
open Go.RowKit Go.Tum Go.Tum.Y

theorem own_any (w : World) (kind : Int) : Calls Try.prog 109 #[.int .i64 kind] w fun e w' => e = .returned (.int .i64 (ownOf kind)) ∧ w' = w := by
  unfold ownOf
  by_cases h1 : kind = 1
  · subst h1
    go_enter Try.func109, Try.ntmps109
    go_wp2
    go_ret
    exact ⟨rfl, rfl⟩
  by_cases h2 : kind = 2
  · subst h2
    go_enter Try.func109, Try.ntmps109
    go_wp2
    go_ret
    exact ⟨rfl, rfl⟩
  by_cases h3 : kind = 3
  · subst h3
    go_enter Try.func109, Try.ntmps109
    go_wp2
    go_ret
    exact ⟨rfl, rfl⟩
  by_cases h4 : kind = 4
  · subst h4
    go_enter Try.func109, Try.ntmps109
    go_wp2
    go_ret
    exact ⟨rfl, rfl⟩
  by_cases h5 : kind = 5
  · subst h5
    go_enter Try.func109, Try.ntmps109
    go_wp2
    go_ret
    exact ⟨rfl, rfl⟩
  rw [if_neg h1, if_neg h2, if_neg h3, if_neg h4, if_neg h5]
  go_enter Try.func109, Try.ntmps109
  go_wp2
  go_ret
  exact ⟨rfl, rfl⟩

set_option maxHeartbeats 1000000 in
theorem counts_0 (w : World) (c : Cfg) (h : Ok c) : Calls Try.prog 108 #[mapV c, .int .i64 0] w fun e w' => e = .returned (.tuple #[.int .i64 (cnt c 0), .int .i64 (eachP c 0)]) ∧ Fr [] w w' := by
  rw [show cnt c 0 = 1 by simp [cnt], show eachP c 0 = 1 by simp [eachP, each]]
  unfold mapV
  have hm := Blk.new w 31 (mapCells c)
  have c0 : (w.alloc (.cells (mapCells c).toArray 31)).cell? ⟨w.heap.size, 0, none⟩ = some (.int .i64 c.t) := hm.cell 0
  have c1 : (w.alloc (.cells (mapCells c).toArray 31)).cell? ⟨w.heap.size, 1, none⟩ = some (.int .i64 c.b) := hm.cell 1
  have HM := Lib.hid hm; clear hm
  generalize mapCells c = cs at *
  go_enter Try.func108, Try.ntmps108
  go_wp2
  go_ret2
  exact ⟨rfl, (Fr.refl [] _).alloc _⟩
set_option maxHeartbeats 1000000 in
theorem counts_1 (w : World) (c : Cfg) (h : Ok c) : Calls Try.prog 108 #[mapV c, .int .i64 1] w fun e w' => e = .returned (.tuple #[.int .i64 (cnt c 1), .int .i64 (eachP c 1)]) ∧ Fr [] w w' := by
  rw [show cnt c 1 = c.t by simp [cnt], show eachP c 1 = 1 by simp [eachP, each]]
  unfold mapV
  have hm := Blk.new w 31 (mapCells c)
  have c0 : (w.alloc (.cells (mapCells c).toArray 31)).cell? ⟨w.heap.size, 0, none⟩ = some (.int .i64 c.t) := hm.cell 0
  have c1 : (w.alloc (.cells (mapCells c).toArray 31)).cell? ⟨w.heap.size, 1, none⟩ = some (.int .i64 c.b) := hm.cell 1
  have HM := Lib.hid hm; clear hm
  generalize mapCells c = cs at *
  go_enter Try.func108, Try.ntmps108
  go_wp2
  go_ret2
  exact ⟨rfl, (Fr.refl [] _).alloc _⟩
set_option maxHeartbeats 1000000 in
theorem counts_2 (w : World) (c : Cfg) (h : Ok c) : Calls Try.prog 108 #[mapV c, .int .i64 2] w fun e w' => e = .returned (.tuple #[.int .i64 (cnt c 2), .int .i64 (eachP c 2)]) ∧ Fr [] w w' := by
  rw [show cnt c 2 = c.t by simp [cnt], show eachP c 2 = 4 by simp [eachP, each]]
  unfold mapV
  have hm := Blk.new w 31 (mapCells c)
  have c0 : (w.alloc (.cells (mapCells c).toArray 31)).cell? ⟨w.heap.size, 0, none⟩ = some (.int .i64 c.t) := hm.cell 0
  have c1 : (w.alloc (.cells (mapCells c).toArray 31)).cell? ⟨w.heap.size, 1, none⟩ = some (.int .i64 c.b) := hm.cell 1
  have HM := Lib.hid hm; clear hm
  generalize mapCells c = cs at *
  go_enter Try.func108, Try.ntmps108
  go_wp2
  go_ret2
  exact ⟨rfl, (Fr.refl [] _).alloc _⟩
set_option maxHeartbeats 1000000 in
theorem counts_3 (w : World) (c : Cfg) (h : Ok c) : Calls Try.prog 108 #[mapV c, .int .i64 3] w fun e w' => e = .returned (.tuple #[.int .i64 (cnt c 3), .int .i64 (eachP c 3)]) ∧ Fr [] w w' := by
  rw [show cnt c 3 = c.t by simp [cnt], show eachP c 3 = 1 by simp [eachP, each]]
  unfold mapV
  have hm := Blk.new w 31 (mapCells c)
  have c0 : (w.alloc (.cells (mapCells c).toArray 31)).cell? ⟨w.heap.size, 0, none⟩ = some (.int .i64 c.t) := hm.cell 0
  have c1 : (w.alloc (.cells (mapCells c).toArray 31)).cell? ⟨w.heap.size, 1, none⟩ = some (.int .i64 c.b) := hm.cell 1
  have HM := Lib.hid hm; clear hm
  generalize mapCells c = cs at *
  go_enter Try.func108, Try.ntmps108
  go_wp2
  go_ret2
  exact ⟨rfl, (Fr.refl [] _).alloc _⟩
set_option maxHeartbeats 1000000 in
theorem counts_4 (w : World) (c : Cfg) (h : Ok c) : Calls Try.prog 108 #[mapV c, .int .i64 4] w fun e w' => e = .returned (.tuple #[.int .i64 (cnt c 4), .int .i64 (eachP c 4)]) ∧ Fr [] w w' := by
  rw [show cnt c 4 = c.t by simp [cnt], show eachP c 4 = 1 by simp [eachP, each]]
  unfold mapV
  have hm := Blk.new w 31 (mapCells c)
  have c0 : (w.alloc (.cells (mapCells c).toArray 31)).cell? ⟨w.heap.size, 0, none⟩ = some (.int .i64 c.t) := hm.cell 0
  have c1 : (w.alloc (.cells (mapCells c).toArray 31)).cell? ⟨w.heap.size, 1, none⟩ = some (.int .i64 c.b) := hm.cell 1
  have HM := Lib.hid hm; clear hm
  generalize mapCells c = cs at *
  go_enter Try.func108, Try.ntmps108
  go_wp2
  go_ret2
  exact ⟨rfl, (Fr.refl [] _).alloc _⟩
set_option maxHeartbeats 1000000 in
theorem counts_5 (w : World) (c : Cfg) (h : Ok c) : Calls Try.prog 108 #[mapV c, .int .i64 5] w fun e w' => e = .returned (.tuple #[.int .i64 (cnt c 5), .int .i64 (eachP c 5)]) ∧ Fr [] w w' := by
  rw [show cnt c 5 = c.t by simp [cnt], show eachP c 5 = 1 by simp [eachP, each]]
  unfold mapV
  have hm := Blk.new w 31 (mapCells c)
  have c0 : (w.alloc (.cells (mapCells c).toArray 31)).cell? ⟨w.heap.size, 0, none⟩ = some (.int .i64 c.t) := hm.cell 0
  have c1 : (w.alloc (.cells (mapCells c).toArray 31)).cell? ⟨w.heap.size, 1, none⟩ = some (.int .i64 c.b) := hm.cell 1
  have HM := Lib.hid hm; clear hm
  generalize mapCells c = cs at *
  go_enter Try.func108, Try.ntmps108
  go_wp2
  go_ret2
  exact ⟨rfl, (Fr.refl [] _).alloc _⟩
set_option maxHeartbeats 1000000 in
theorem counts_7 (w : World) (c : Cfg) (h : Ok c) : Calls Try.prog 108 #[mapV c, .int .i64 7] w fun e w' => e = .returned (.tuple #[.int .i64 (cnt c 7), .int .i64 (eachP c 7)]) ∧ Fr [] w w' := by
  rw [show cnt c 7 = c.t by simp [cnt], show eachP c 7 = 1 by simp [eachP, each]]
  unfold mapV
  have hm := Blk.new w 31 (mapCells c)
  have c0 : (w.alloc (.cells (mapCells c).toArray 31)).cell? ⟨w.heap.size, 0, none⟩ = some (.int .i64 c.t) := hm.cell 0
  have c1 : (w.alloc (.cells (mapCells c).toArray 31)).cell? ⟨w.heap.size, 1, none⟩ = some (.int .i64 c.b) := hm.cell 1
  have HM := Lib.hid hm; clear hm
  generalize mapCells c = cs at *
  go_enter Try.func108, Try.ntmps108
  go_wp2
  go_ret2
  exact ⟨rfl, (Fr.refl [] _).alloc _⟩
set_option maxHeartbeats 1000000 in
theorem counts_8 (w : World) (c : Cfg) (h : Ok c) : Calls Try.prog 108 #[mapV c, .int .i64 8] w fun e w' => e = .returned (.tuple #[.int .i64 (cnt c 8), .int .i64 (eachP c 8)]) ∧ Fr [] w w' := by
  rw [show cnt c 8 = c.t by simp [cnt], show eachP c 8 = 1 by simp [eachP, each]]
  unfold mapV
  have hm := Blk.new w 31 (mapCells c)
  have c0 : (w.alloc (.cells (mapCells c).toArray 31)).cell? ⟨w.heap.size, 0, none⟩ = some (.int .i64 c.t) := hm.cell 0
  have c1 : (w.alloc (.cells (mapCells c).toArray 31)).cell? ⟨w.heap.size, 1, none⟩ = some (.int .i64 c.b) := hm.cell 1
  have HM := Lib.hid hm; clear hm
  generalize mapCells c = cs at *
  go_enter Try.func108, Try.ntmps108
  go_wp2
  go_ret2
  exact ⟨rfl, (Fr.refl [] _).alloc _⟩
set_option maxHeartbeats 1000000 in
theorem counts_9 (w : World) (c : Cfg) (h : Ok c) : Calls Try.prog 108 #[mapV c, .int .i64 9] w fun e w' => e = .returned (.tuple #[.int .i64 (cnt c 9), .int .i64 (eachP c 9)]) ∧ Fr [] w w' := by
  rw [show cnt c 9 = c.t by simp [cnt], show eachP c 9 = 1 by simp [eachP, each]]
  unfold mapV
  have hm := Blk.new w 31 (mapCells c)
  have c0 : (w.alloc (.cells (mapCells c).toArray 31)).cell? ⟨w.heap.size, 0, none⟩ = some (.int .i64 c.t) := hm.cell 0
  have c1 : (w.alloc (.cells (mapCells c).toArray 31)).cell? ⟨w.heap.size, 1, none⟩ = some (.int .i64 c.b) := hm.cell 1
  have HM := Lib.hid hm; clear hm
  generalize mapCells c = cs at *
  go_enter Try.func108, Try.ntmps108
  go_wp2
  go_ret2
  exact ⟨rfl, (Fr.refl [] _).alloc _⟩
set_option maxHeartbeats 1000000 in
theorem counts_10 (w : World) (c : Cfg) (h : Ok c) : Calls Try.prog 108 #[mapV c, .int .i64 10] w fun e w' => e = .returned (.tuple #[.int .i64 (cnt c 10), .int .i64 (eachP c 10)]) ∧ Fr [] w w' := by
  rw [show cnt c 10 = 16 by simp [cnt], show eachP c 10 = 1 by simp [eachP, each]]
  unfold mapV
  have hm := Blk.new w 31 (mapCells c)
  have c0 : (w.alloc (.cells (mapCells c).toArray 31)).cell? ⟨w.heap.size, 0, none⟩ = some (.int .i64 c.t) := hm.cell 0
  have c1 : (w.alloc (.cells (mapCells c).toArray 31)).cell? ⟨w.heap.size, 1, none⟩ = some (.int .i64 c.b) := hm.cell 1
  have HM := Lib.hid hm; clear hm
  generalize mapCells c = cs at *
  go_enter Try.func108, Try.ntmps108
  go_wp2
  go_ret2
  exact ⟨rfl, (Fr.refl [] _).alloc _⟩
set_option maxHeartbeats 1000000 in
theorem counts_11 (w : World) (c : Cfg) (h : Ok c) : Calls Try.prog 108 #[mapV c, .int .i64 11] w fun e w' => e = .returned (.tuple #[.int .i64 (cnt c 11), .int .i64 (eachP c 11)]) ∧ Fr [] w w' := by
  rw [show cnt c 11 = c.b by simp [cnt], show eachP c 11 = 1 by simp [eachP, each]]
  unfold mapV
  have hm := Blk.new w 31 (mapCells c)
  have c0 : (w.alloc (.cells (mapCells c).toArray 31)).cell? ⟨w.heap.size, 0, none⟩ = some (.int .i64 c.t) := hm.cell 0
  have c1 : (w.alloc (.cells (mapCells c).toArray 31)).cell? ⟨w.heap.size, 1, none⟩ = some (.int .i64 c.b) := hm.cell 1
  have HM := Lib.hid hm; clear hm
  generalize mapCells c = cs at *
  go_enter Try.func108, Try.ntmps108
  go_wp2
  go_ret2
  exact ⟨rfl, (Fr.refl [] _).alloc _⟩
set_option maxHeartbeats 1000000 in
theorem counts_12 (w : World) (c : Cfg) (h : Ok c) : Calls Try.prog 108 #[mapV c, .int .i64 12] w fun e w' => e = .returned (.tuple #[.int .i64 (cnt c 12), .int .i64 (eachP c 12)]) ∧ Fr [] w w' := by
  rw [show cnt c 12 = 1 by simp [cnt], show eachP c 12 = 1 by simp [eachP, each]]
  unfold mapV
  have hm := Blk.new w 31 (mapCells c)
  have c0 : (w.alloc (.cells (mapCells c).toArray 31)).cell? ⟨w.heap.size, 0, none⟩ = some (.int .i64 c.t) := hm.cell 0
  have c1 : (w.alloc (.cells (mapCells c).toArray 31)).cell? ⟨w.heap.size, 1, none⟩ = some (.int .i64 c.b) := hm.cell 1
  have HM := Lib.hid hm; clear hm
  generalize mapCells c = cs at *
  go_enter Try.func108, Try.ntmps108
  go_wp2
  go_ret2
  exact ⟨rfl, (Fr.refl [] _).alloc _⟩
set_option maxHeartbeats 1000000 in
theorem counts_13 (w : World) (c : Cfg) (h : Ok c) : Calls Try.prog 108 #[mapV c, .int .i64 13] w fun e w' => e = .returned (.tuple #[.int .i64 (cnt c 13), .int .i64 (eachP c 13)]) ∧ Fr [] w w' := by
  rw [show cnt c 13 = c.b by simp [cnt], show eachP c 13 = 1 by simp [eachP, each]]
  unfold mapV
  have hm := Blk.new w 31 (mapCells c)
  have c0 : (w.alloc (.cells (mapCells c).toArray 31)).cell? ⟨w.heap.size, 0, none⟩ = some (.int .i64 c.t) := hm.cell 0
  have c1 : (w.alloc (.cells (mapCells c).toArray 31)).cell? ⟨w.heap.size, 1, none⟩ = some (.int .i64 c.b) := hm.cell 1
  have HM := Lib.hid hm; clear hm
  generalize mapCells c = cs at *
  go_enter Try.func108, Try.ntmps108
  go_wp2
  go_ret2
  exact ⟨rfl, (Fr.refl [] _).alloc _⟩
set_option maxHeartbeats 1000000 in
theorem counts_14 (w : World) (c : Cfg) (h : Ok c) : Calls Try.prog 108 #[mapV c, .int .i64 14] w fun e w' => e = .returned (.tuple #[.int .i64 (cnt c 14), .int .i64 (eachP c 14)]) ∧ Fr [] w w' := by
  rw [show cnt c 14 = 1 by simp [cnt], show eachP c 14 = 1 by simp [eachP, each]]
  unfold mapV
  have hm := Blk.new w 31 (mapCells c)
  have c0 : (w.alloc (.cells (mapCells c).toArray 31)).cell? ⟨w.heap.size, 0, none⟩ = some (.int .i64 c.t) := hm.cell 0
  have c1 : (w.alloc (.cells (mapCells c).toArray 31)).cell? ⟨w.heap.size, 1, none⟩ = some (.int .i64 c.b) := hm.cell 1
  have HM := Lib.hid hm; clear hm
  generalize mapCells c = cs at *
  go_enter Try.func108, Try.ntmps108
  go_wp2
  go_ret2
  exact ⟨rfl, (Fr.refl [] _).alloc _⟩
set_option maxHeartbeats 1000000 in
theorem counts_16 (w : World) (c : Cfg) (h : Ok c) : Calls Try.prog 108 #[mapV c, .int .i64 16] w fun e w' => e = .returned (.tuple #[.int .i64 (cnt c 16), .int .i64 (eachP c 16)]) ∧ Fr [] w w' := by
  rw [show cnt c 16 = c.b by simp [cnt], show eachP c 16 = 8 by simp [eachP, each]]
  unfold mapV
  have hm := Blk.new w 31 (mapCells c)
  have c0 : (w.alloc (.cells (mapCells c).toArray 31)).cell? ⟨w.heap.size, 0, none⟩ = some (.int .i64 c.t) := hm.cell 0
  have c1 : (w.alloc (.cells (mapCells c).toArray 31)).cell? ⟨w.heap.size, 1, none⟩ = some (.int .i64 c.b) := hm.cell 1
  have HM := Lib.hid hm; clear hm
  generalize mapCells c = cs at *
  go_enter Try.func108, Try.ntmps108
  go_wp2
  go_ret2
  exact ⟨rfl, (Fr.refl [] _).alloc _⟩

set_option maxHeartbeats 1000000 in
theorem counts_6 (w : World) (c : Cfg) (h : Ok c) : Calls Try.prog 108 #[mapV c, .int .i64 6] w fun e w' => e = .returned (.tuple #[.int .i64 (cnt c 6), .int .i64 (eachP c 6)]) ∧ Fr [] w w' := by
  rw [show cnt c 6 = c.t by simp [cnt], show eachP c 6 = cap c by simp [eachP, each]]
  have HC := Lib.hid (fun w => cap_any w c h)
  have hsz : (mapCells c).length = 24 := rfl
  unfold mapV at *
  have hm := Blk.new w 31 (mapCells c)
  have c0 : (w.alloc (.cells (mapCells c).toArray 31)).cell? ⟨w.heap.size, 0, none⟩ = some (.int .i64 c.t) := hm.cell 0
  have HM := Lib.hid hm; clear hm
  generalize mapCells c = cs at *
  generalize cap c = q at *
  go_enter Try.func108, Try.ntmps108
  go_wp2
  have hmd := HM.out.drew
  refine wp_region_fr [(1, [0, 1, 2, 3]), (2, [4]), (0, [5, 6])] [] (by kernel_rfl) (by kernel_rfl) ?_
  simp only [theOps, nthOp, List.map_cons, List.map_nil, Array.getD_eq_getD_getElem?, List.getElem?_toArray, List.getElem?_cons_succ, List.getElem?_cons_zero, Option.getD_some]
  refine wpSegs_soft ?_
  iterate 3 (first | go_big_quiet_step (fail) | quiet_step (fail))
  refine wpQuiet_load_mid 31 _ w.heap.size 0 cs _ rfl rfl rfl (rangeAt_after hmd (by simp)) Try.underlying31 rfl (by rw [hsz]; kernel_rfl) ?_
  simp only [Act.put, List.setIfInBounds_toArray, List.set_cons_zero, List.set_cons_succ]
  refine wpQuiet_nil ?_
  refine wpSegs_keep ?_
  go_wp2_with fail
  refine (HC.out _).mono ?_
  rintro e w1 ⟨rfl, hf⟩
  have HF := Lib.hid hf; clear hf
  go_wp2_with fail
  refine ⟨⟨⟨_, (by exact HF.out)⟩, rfl⟩, ?_⟩
  repeat ((first | refine wpSegs_soft ?_ | refine wpSegs_pure ?_ | refine wpSegs_here ?_); (repeat (first | go_big_quiet_step (fail) | quiet_step (fail))); refine wpQuiet_nil ?_)
  refine wpSegs_done ?_
  go_wp2_with fail
  go_ret2
  exact ⟨rfl, (((Fr.refl [] _).alloc _).drew).trans HF.out⟩
set_option maxHeartbeats 1000000 in
theorem counts_15 (w : World) (c : Cfg) (h : Ok c) : Calls Try.prog 108 #[mapV c, .int .i64 15] w fun e w' => e = .returned (.tuple #[.int .i64 (cnt c 15), .int .i64 (eachP c 15)]) ∧ Fr [] w w' := by
  rw [show cnt c 15 = limit c by simp [cnt], show eachP c 15 = 1 by simp [eachP, each]]
  have HC := Lib.hid (fun w => limit_any w c h)
  have hsz : (mapCells c).length = 24 := rfl
  unfold mapV at *
  have hm := Blk.new w 31 (mapCells c)
  have c0 : (w.alloc (.cells (mapCells c).toArray 31)).cell? ⟨w.heap.size, 0, none⟩ = some (.int .i64 c.t) := hm.cell 0
  have HM := Lib.hid hm; clear hm
  generalize mapCells c = cs at *
  generalize limit c = q at *
  go_enter Try.func108, Try.ntmps108
  go_wp2_with (refine wpList_load_any 31 _ rfl rfl _ 0 rfl cs _ HM.out.range Try.underlying31 rfl (by rw [hsz]; kernel_rfl) ?_)
  refine (HC.out _).mono ?_
  rintro e w1 ⟨rfl, hf⟩
  have HF := Lib.hid hf; clear hf
  go_wp2_with fail
  go_ret2
  exact ⟨rfl, ((Fr.refl [] _).alloc _).trans HF.out⟩
set_option maxHeartbeats 1000000 in
theorem counts_no (w : World) (c : Cfg) (kind : Int) (hk : kind < 0 ∨ 16 < kind) : Calls Try.prog 108 #[mapV c, .int .i64 kind] w fun e w' => e = .returned (.tuple #[.int .i64 (cnt c kind), .int .i64 (eachP c kind)]) ∧ Fr [] w w' := by
  rw [show cnt c kind = 0 by unfold cnt; rw [if_neg (by omega), if_neg (by omega), if_neg (by omega), if_neg (by omega), if_neg (by omega)], show eachP c kind = 0 by unfold eachP; rw [if_neg (by omega)]]
  unfold mapV
  have d0 : (kind == (0 : Int)) = false := by simp; omega
  have d1 : (kind == (1 : Int)) = false := by simp; omega
  have d2 : (kind == (2 : Int)) = false := by simp; omega
  have d3 : (kind == (3 : Int)) = false := by simp; omega
  have d4 : (kind == (4 : Int)) = false := by simp; omega
  have d5 : (kind == (5 : Int)) = false := by simp; omega
  have d6 : (kind == (6 : Int)) = false := by simp; omega
  have d7 : (kind == (7 : Int)) = false := by simp; omega
  have d8 : (kind == (8 : Int)) = false := by simp; omega
  have d9 : (kind == (9 : Int)) = false := by simp; omega
  have d10 : (kind == (10 : Int)) = false := by simp; omega
  have d11 : (kind == (11 : Int)) = false := by simp; omega
  have d12 : (kind == (12 : Int)) = false := by simp; omega
  have d13 : (kind == (13 : Int)) = false := by simp; omega
  have d14 : (kind == (14 : Int)) = false := by simp; omega
  have d15 : (kind == (15 : Int)) = false := by simp; omega
  have d16 : (kind == (16 : Int)) = false := by simp; omega
  clear hk
  generalize mapCells c = cs
  go_enter Try.func108, Try.ntmps108
  go_wp2
  go_ret2
  exact ⟨rfl, (Fr.refl [] _).alloc _⟩
theorem kinds {kind : Int} (h : 0 ≤ kind ∧ kind ≤ 16) : kind = 0 ∨ kind = 1 ∨ kind = 2 ∨ kind = 3 ∨ kind = 4 ∨ kind = 5 ∨ kind = 6 ∨ kind = 7 ∨ kind = 8 ∨ kind = 9 ∨ kind = 10 ∨ kind = 11 ∨ kind = 12 ∨ kind = 13 ∨ kind = 14 ∨ kind = 15 ∨ kind = 16 := by omega
theorem counts_any (w : World) (c : Cfg) (h : Ok c) (kind : Int) : Calls Try.prog 108 #[mapV c, .int .i64 kind] w fun e w' => e = .returned (.tuple #[.int .i64 (cnt c kind), .int .i64 (eachP c kind)]) ∧ Fr [] w w' := by
  by_cases hk : 0 ≤ kind ∧ kind ≤ 16
  · rcases kinds hk with rfl | rfl | rfl | rfl | rfl | rfl | rfl | rfl | rfl | rfl | rfl | rfl | rfl | rfl | rfl | rfl | rfl
    · exact counts_0 w c h
    · exact counts_1 w c h
    · exact counts_2 w c h
    · exact counts_3 w c h
    · exact counts_4 w c h
    · exact counts_5 w c h
    · exact counts_6 w c h
    · exact counts_7 w c h
    · exact counts_8 w c h
    · exact counts_9 w c h
    · exact counts_10 w c h
    · exact counts_11 w c h
    · exact counts_12 w c h
    · exact counts_13 w c h
    · exact counts_14 w c h
    · exact counts_15 w c h
    · exact counts_16 w c h
  · exact counts_no w c kind (by omega)
end Go.Proofs.Ytccioehckfdjdaa
