/- The walks of the document's Count, Each, From, Size. -/
import Derived.Test.YtccioehckfdjdaaYwh
set_option linter.unusedSimpArgs false
set_option linter.unusedVariables false
namespace Go.Proofs.Ytccioehckfdjdaa
open Go.RowKit Go.Tum Go.Tum.Y
set_option maxHeartbeats 1000000 in
theorem rcount_0 (w : World) (c : Cfg) : Calls Try.prog 131 #[cfgV c, .int .i64 0] w fun e w' => e = .returned (.int .i64 (cnt c 0)) ∧ Fr [] w w' := by
  rw [show cnt c 0 = 1 by simp [cnt], show cfgV c = .agg (cfgL c).toArray from rfl]
  have hm := Blk.new w 24 (cfgL c)
  have hsz : (cfgL c).length = 6 := rfl
  have g0 : (cfgL c)[0]? = some (.int .i64 c.t) := rfl
  have g1 : (cfgL c)[1]? = some (.int .i64 c.b) := rfl
  have c0 := (hm.cell 0).trans g0
  have c1 := (hm.cell 1).trans g1
  have HM := Lib.hid hm
  clear hm
  generalize cfgL c = cl at *
  go_enter Try.func131, Try.ntmps131
  go_wp2
  go_ret
  exact ⟨rfl, (Fr.refl [] _).alloc _⟩
set_option maxHeartbeats 1000000 in
theorem reach_0 (w : World) (c : Cfg) (h : Ok c) : Calls Try.prog 129 #[cfgV c, .int .i64 0] w fun e w' => e = .returned (.int .i64 (each c 0)) ∧ Fr [] w w' := by
  rw [show each c 0 = 1 by simp [each], show cfgV c = .agg (cfgL c).toArray from rfl]
  generalize cfgL c = cl at *
  go_enter Try.func129, Try.ntmps129
  go_wp2
  go_ret
  exact ⟨rfl, (Fr.refl [] _).alloc _⟩
set_option maxHeartbeats 1000000 in
theorem rcount_1 (w : World) (c : Cfg) : Calls Try.prog 131 #[cfgV c, .int .i64 1] w fun e w' => e = .returned (.int .i64 (cnt c 1)) ∧ Fr [] w w' := by
  rw [show cnt c 1 = c.t by simp [cnt], show cfgV c = .agg (cfgL c).toArray from rfl]
  have hm := Blk.new w 24 (cfgL c)
  have hsz : (cfgL c).length = 6 := rfl
  have g0 : (cfgL c)[0]? = some (.int .i64 c.t) := rfl
  have g1 : (cfgL c)[1]? = some (.int .i64 c.b) := rfl
  have c0 := (hm.cell 0).trans g0
  have c1 := (hm.cell 1).trans g1
  have HM := Lib.hid hm
  clear hm
  generalize cfgL c = cl at *
  go_enter Try.func131, Try.ntmps131
  go_wp2
  go_ret
  exact ⟨rfl, (Fr.refl [] _).alloc _⟩
set_option maxHeartbeats 1000000 in
theorem reach_1 (w : World) (c : Cfg) (h : Ok c) : Calls Try.prog 129 #[cfgV c, .int .i64 1] w fun e w' => e = .returned (.int .i64 (each c 1)) ∧ Fr [] w w' := by
  rw [show each c 1 = 1 by simp [each], show cfgV c = .agg (cfgL c).toArray from rfl]
  generalize cfgL c = cl at *
  go_enter Try.func129, Try.ntmps129
  go_wp2
  go_ret
  exact ⟨rfl, (Fr.refl [] _).alloc _⟩
set_option maxHeartbeats 1000000 in
theorem rcount_2 (w : World) (c : Cfg) : Calls Try.prog 131 #[cfgV c, .int .i64 2] w fun e w' => e = .returned (.int .i64 (cnt c 2)) ∧ Fr [] w w' := by
  rw [show cnt c 2 = c.t by simp [cnt], show cfgV c = .agg (cfgL c).toArray from rfl]
  have hm := Blk.new w 24 (cfgL c)
  have hsz : (cfgL c).length = 6 := rfl
  have g0 : (cfgL c)[0]? = some (.int .i64 c.t) := rfl
  have g1 : (cfgL c)[1]? = some (.int .i64 c.b) := rfl
  have c0 := (hm.cell 0).trans g0
  have c1 := (hm.cell 1).trans g1
  have HM := Lib.hid hm
  clear hm
  generalize cfgL c = cl at *
  go_enter Try.func131, Try.ntmps131
  go_wp2
  go_ret
  exact ⟨rfl, (Fr.refl [] _).alloc _⟩
set_option maxHeartbeats 1000000 in
theorem reach_2 (w : World) (c : Cfg) (h : Ok c) : Calls Try.prog 129 #[cfgV c, .int .i64 2] w fun e w' => e = .returned (.int .i64 (each c 2)) ∧ Fr [] w w' := by
  rw [show each c 2 = 4 by simp [each], show cfgV c = .agg (cfgL c).toArray from rfl]
  generalize cfgL c = cl at *
  go_enter Try.func129, Try.ntmps129
  go_wp2
  go_ret
  exact ⟨rfl, (Fr.refl [] _).alloc _⟩
set_option maxHeartbeats 1000000 in
theorem rcount_3 (w : World) (c : Cfg) : Calls Try.prog 131 #[cfgV c, .int .i64 3] w fun e w' => e = .returned (.int .i64 (cnt c 3)) ∧ Fr [] w w' := by
  rw [show cnt c 3 = c.t by simp [cnt], show cfgV c = .agg (cfgL c).toArray from rfl]
  have hm := Blk.new w 24 (cfgL c)
  have hsz : (cfgL c).length = 6 := rfl
  have g0 : (cfgL c)[0]? = some (.int .i64 c.t) := rfl
  have g1 : (cfgL c)[1]? = some (.int .i64 c.b) := rfl
  have c0 := (hm.cell 0).trans g0
  have c1 := (hm.cell 1).trans g1
  have HM := Lib.hid hm
  clear hm
  generalize cfgL c = cl at *
  go_enter Try.func131, Try.ntmps131
  go_wp2
  go_ret
  exact ⟨rfl, (Fr.refl [] _).alloc _⟩
set_option maxHeartbeats 1000000 in
theorem reach_3 (w : World) (c : Cfg) (h : Ok c) : Calls Try.prog 129 #[cfgV c, .int .i64 3] w fun e w' => e = .returned (.int .i64 (each c 3)) ∧ Fr [] w w' := by
  rw [show each c 3 = 1 by simp [each], show cfgV c = .agg (cfgL c).toArray from rfl]
  generalize cfgL c = cl at *
  go_enter Try.func129, Try.ntmps129
  go_wp2
  go_ret
  exact ⟨rfl, (Fr.refl [] _).alloc _⟩
set_option maxHeartbeats 1000000 in
theorem rcount_4 (w : World) (c : Cfg) : Calls Try.prog 131 #[cfgV c, .int .i64 4] w fun e w' => e = .returned (.int .i64 (cnt c 4)) ∧ Fr [] w w' := by
  rw [show cnt c 4 = c.t by simp [cnt], show cfgV c = .agg (cfgL c).toArray from rfl]
  have hm := Blk.new w 24 (cfgL c)
  have hsz : (cfgL c).length = 6 := rfl
  have g0 : (cfgL c)[0]? = some (.int .i64 c.t) := rfl
  have g1 : (cfgL c)[1]? = some (.int .i64 c.b) := rfl
  have c0 := (hm.cell 0).trans g0
  have c1 := (hm.cell 1).trans g1
  have HM := Lib.hid hm
  clear hm
  generalize cfgL c = cl at *
  go_enter Try.func131, Try.ntmps131
  go_wp2
  go_ret
  exact ⟨rfl, (Fr.refl [] _).alloc _⟩
set_option maxHeartbeats 1000000 in
theorem reach_4 (w : World) (c : Cfg) (h : Ok c) : Calls Try.prog 129 #[cfgV c, .int .i64 4] w fun e w' => e = .returned (.int .i64 (each c 4)) ∧ Fr [] w w' := by
  rw [show each c 4 = 1 by simp [each], show cfgV c = .agg (cfgL c).toArray from rfl]
  generalize cfgL c = cl at *
  go_enter Try.func129, Try.ntmps129
  go_wp2
  go_ret
  exact ⟨rfl, (Fr.refl [] _).alloc _⟩
set_option maxHeartbeats 1000000 in
theorem rcount_5 (w : World) (c : Cfg) : Calls Try.prog 131 #[cfgV c, .int .i64 5] w fun e w' => e = .returned (.int .i64 (cnt c 5)) ∧ Fr [] w w' := by
  rw [show cnt c 5 = c.t by simp [cnt], show cfgV c = .agg (cfgL c).toArray from rfl]
  have hm := Blk.new w 24 (cfgL c)
  have hsz : (cfgL c).length = 6 := rfl
  have g0 : (cfgL c)[0]? = some (.int .i64 c.t) := rfl
  have g1 : (cfgL c)[1]? = some (.int .i64 c.b) := rfl
  have c0 := (hm.cell 0).trans g0
  have c1 := (hm.cell 1).trans g1
  have HM := Lib.hid hm
  clear hm
  generalize cfgL c = cl at *
  go_enter Try.func131, Try.ntmps131
  go_wp2
  go_ret
  exact ⟨rfl, (Fr.refl [] _).alloc _⟩
set_option maxHeartbeats 1000000 in
theorem reach_5 (w : World) (c : Cfg) (h : Ok c) : Calls Try.prog 129 #[cfgV c, .int .i64 5] w fun e w' => e = .returned (.int .i64 (each c 5)) ∧ Fr [] w w' := by
  rw [show each c 5 = 1 by simp [each], show cfgV c = .agg (cfgL c).toArray from rfl]
  generalize cfgL c = cl at *
  go_enter Try.func129, Try.ntmps129
  go_wp2
  go_ret
  exact ⟨rfl, (Fr.refl [] _).alloc _⟩
set_option maxHeartbeats 1000000 in
theorem rcount_6 (w : World) (c : Cfg) : Calls Try.prog 131 #[cfgV c, .int .i64 6] w fun e w' => e = .returned (.int .i64 (cnt c 6)) ∧ Fr [] w w' := by
  rw [show cnt c 6 = c.t by simp [cnt], show cfgV c = .agg (cfgL c).toArray from rfl]
  have hm := Blk.new w 24 (cfgL c)
  have hsz : (cfgL c).length = 6 := rfl
  have g0 : (cfgL c)[0]? = some (.int .i64 c.t) := rfl
  have g1 : (cfgL c)[1]? = some (.int .i64 c.b) := rfl
  have c0 := (hm.cell 0).trans g0
  have c1 := (hm.cell 1).trans g1
  have HM := Lib.hid hm
  clear hm
  generalize cfgL c = cl at *
  go_enter Try.func131, Try.ntmps131
  go_wp2
  go_ret
  exact ⟨rfl, (Fr.refl [] _).alloc _⟩
set_option maxHeartbeats 1000000 in
theorem rcount_7 (w : World) (c : Cfg) : Calls Try.prog 131 #[cfgV c, .int .i64 7] w fun e w' => e = .returned (.int .i64 (cnt c 7)) ∧ Fr [] w w' := by
  rw [show cnt c 7 = c.t by simp [cnt], show cfgV c = .agg (cfgL c).toArray from rfl]
  have hm := Blk.new w 24 (cfgL c)
  have hsz : (cfgL c).length = 6 := rfl
  have g0 : (cfgL c)[0]? = some (.int .i64 c.t) := rfl
  have g1 : (cfgL c)[1]? = some (.int .i64 c.b) := rfl
  have c0 := (hm.cell 0).trans g0
  have c1 := (hm.cell 1).trans g1
  have HM := Lib.hid hm
  clear hm
  generalize cfgL c = cl at *
  go_enter Try.func131, Try.ntmps131
  go_wp2
  go_ret
  exact ⟨rfl, (Fr.refl [] _).alloc _⟩
set_option maxHeartbeats 1000000 in
theorem reach_7 (w : World) (c : Cfg) (h : Ok c) : Calls Try.prog 129 #[cfgV c, .int .i64 7] w fun e w' => e = .returned (.int .i64 (each c 7)) ∧ Fr [] w w' := by
  rw [show each c 7 = 1 by simp [each], show cfgV c = .agg (cfgL c).toArray from rfl]
  generalize cfgL c = cl at *
  go_enter Try.func129, Try.ntmps129
  go_wp2
  go_ret
  exact ⟨rfl, (Fr.refl [] _).alloc _⟩
set_option maxHeartbeats 1000000 in
theorem rcount_8 (w : World) (c : Cfg) : Calls Try.prog 131 #[cfgV c, .int .i64 8] w fun e w' => e = .returned (.int .i64 (cnt c 8)) ∧ Fr [] w w' := by
  rw [show cnt c 8 = c.t by simp [cnt], show cfgV c = .agg (cfgL c).toArray from rfl]
  have hm := Blk.new w 24 (cfgL c)
  have hsz : (cfgL c).length = 6 := rfl
  have g0 : (cfgL c)[0]? = some (.int .i64 c.t) := rfl
  have g1 : (cfgL c)[1]? = some (.int .i64 c.b) := rfl
  have c0 := (hm.cell 0).trans g0
  have c1 := (hm.cell 1).trans g1
  have HM := Lib.hid hm
  clear hm
  generalize cfgL c = cl at *
  go_enter Try.func131, Try.ntmps131
  go_wp2
  go_ret
  exact ⟨rfl, (Fr.refl [] _).alloc _⟩
set_option maxHeartbeats 1000000 in
theorem reach_8 (w : World) (c : Cfg) (h : Ok c) : Calls Try.prog 129 #[cfgV c, .int .i64 8] w fun e w' => e = .returned (.int .i64 (each c 8)) ∧ Fr [] w w' := by
  rw [show each c 8 = 1 by simp [each], show cfgV c = .agg (cfgL c).toArray from rfl]
  generalize cfgL c = cl at *
  go_enter Try.func129, Try.ntmps129
  go_wp2
  go_ret
  exact ⟨rfl, (Fr.refl [] _).alloc _⟩
set_option maxHeartbeats 1000000 in
theorem rcount_9 (w : World) (c : Cfg) : Calls Try.prog 131 #[cfgV c, .int .i64 9] w fun e w' => e = .returned (.int .i64 (cnt c 9)) ∧ Fr [] w w' := by
  rw [show cnt c 9 = c.t by simp [cnt], show cfgV c = .agg (cfgL c).toArray from rfl]
  have hm := Blk.new w 24 (cfgL c)
  have hsz : (cfgL c).length = 6 := rfl
  have g0 : (cfgL c)[0]? = some (.int .i64 c.t) := rfl
  have g1 : (cfgL c)[1]? = some (.int .i64 c.b) := rfl
  have c0 := (hm.cell 0).trans g0
  have c1 := (hm.cell 1).trans g1
  have HM := Lib.hid hm
  clear hm
  generalize cfgL c = cl at *
  go_enter Try.func131, Try.ntmps131
  go_wp2
  go_ret
  exact ⟨rfl, (Fr.refl [] _).alloc _⟩
set_option maxHeartbeats 1000000 in
theorem reach_9 (w : World) (c : Cfg) (h : Ok c) : Calls Try.prog 129 #[cfgV c, .int .i64 9] w fun e w' => e = .returned (.int .i64 (each c 9)) ∧ Fr [] w w' := by
  rw [show each c 9 = 1 by simp [each], show cfgV c = .agg (cfgL c).toArray from rfl]
  generalize cfgL c = cl at *
  go_enter Try.func129, Try.ntmps129
  go_wp2
  go_ret
  exact ⟨rfl, (Fr.refl [] _).alloc _⟩
set_option maxHeartbeats 1000000 in
theorem rcount_10 (w : World) (c : Cfg) : Calls Try.prog 131 #[cfgV c, .int .i64 10] w fun e w' => e = .returned (.int .i64 (cnt c 10)) ∧ Fr [] w w' := by
  rw [show cnt c 10 = 16 by simp [cnt], show cfgV c = .agg (cfgL c).toArray from rfl]
  have hm := Blk.new w 24 (cfgL c)
  have hsz : (cfgL c).length = 6 := rfl
  have g0 : (cfgL c)[0]? = some (.int .i64 c.t) := rfl
  have g1 : (cfgL c)[1]? = some (.int .i64 c.b) := rfl
  have c0 := (hm.cell 0).trans g0
  have c1 := (hm.cell 1).trans g1
  have HM := Lib.hid hm
  clear hm
  generalize cfgL c = cl at *
  go_enter Try.func131, Try.ntmps131
  go_wp2
  go_ret
  exact ⟨rfl, (Fr.refl [] _).alloc _⟩
set_option maxHeartbeats 1000000 in
theorem reach_10 (w : World) (c : Cfg) (h : Ok c) : Calls Try.prog 129 #[cfgV c, .int .i64 10] w fun e w' => e = .returned (.int .i64 (each c 10)) ∧ Fr [] w w' := by
  rw [show each c 10 = 1 by simp [each], show cfgV c = .agg (cfgL c).toArray from rfl]
  generalize cfgL c = cl at *
  go_enter Try.func129, Try.ntmps129
  go_wp2
  go_ret
  exact ⟨rfl, (Fr.refl [] _).alloc _⟩
set_option maxHeartbeats 1000000 in
theorem rcount_11 (w : World) (c : Cfg) : Calls Try.prog 131 #[cfgV c, .int .i64 11] w fun e w' => e = .returned (.int .i64 (cnt c 11)) ∧ Fr [] w w' := by
  rw [show cnt c 11 = c.b by simp [cnt], show cfgV c = .agg (cfgL c).toArray from rfl]
  have hm := Blk.new w 24 (cfgL c)
  have hsz : (cfgL c).length = 6 := rfl
  have g0 : (cfgL c)[0]? = some (.int .i64 c.t) := rfl
  have g1 : (cfgL c)[1]? = some (.int .i64 c.b) := rfl
  have c0 := (hm.cell 0).trans g0
  have c1 := (hm.cell 1).trans g1
  have HM := Lib.hid hm
  clear hm
  generalize cfgL c = cl at *
  go_enter Try.func131, Try.ntmps131
  go_wp2
  go_ret
  exact ⟨rfl, (Fr.refl [] _).alloc _⟩
set_option maxHeartbeats 1000000 in
theorem reach_11 (w : World) (c : Cfg) (h : Ok c) : Calls Try.prog 129 #[cfgV c, .int .i64 11] w fun e w' => e = .returned (.int .i64 (each c 11)) ∧ Fr [] w w' := by
  rw [show each c 11 = 1 by simp [each], show cfgV c = .agg (cfgL c).toArray from rfl]
  generalize cfgL c = cl at *
  go_enter Try.func129, Try.ntmps129
  go_wp2
  go_ret
  exact ⟨rfl, (Fr.refl [] _).alloc _⟩
set_option maxHeartbeats 1000000 in
theorem rcount_12 (w : World) (c : Cfg) : Calls Try.prog 131 #[cfgV c, .int .i64 12] w fun e w' => e = .returned (.int .i64 (cnt c 12)) ∧ Fr [] w w' := by
  rw [show cnt c 12 = 1 by simp [cnt], show cfgV c = .agg (cfgL c).toArray from rfl]
  have hm := Blk.new w 24 (cfgL c)
  have hsz : (cfgL c).length = 6 := rfl
  have g0 : (cfgL c)[0]? = some (.int .i64 c.t) := rfl
  have g1 : (cfgL c)[1]? = some (.int .i64 c.b) := rfl
  have c0 := (hm.cell 0).trans g0
  have c1 := (hm.cell 1).trans g1
  have HM := Lib.hid hm
  clear hm
  generalize cfgL c = cl at *
  go_enter Try.func131, Try.ntmps131
  go_wp2
  go_ret
  exact ⟨rfl, (Fr.refl [] _).alloc _⟩
set_option maxHeartbeats 1000000 in
theorem reach_12 (w : World) (c : Cfg) (h : Ok c) : Calls Try.prog 129 #[cfgV c, .int .i64 12] w fun e w' => e = .returned (.int .i64 (each c 12)) ∧ Fr [] w w' := by
  rw [show each c 12 = 1 by simp [each], show cfgV c = .agg (cfgL c).toArray from rfl]
  generalize cfgL c = cl at *
  go_enter Try.func129, Try.ntmps129
  go_wp2
  go_ret
  exact ⟨rfl, (Fr.refl [] _).alloc _⟩
set_option maxHeartbeats 1000000 in
theorem rcount_13 (w : World) (c : Cfg) : Calls Try.prog 131 #[cfgV c, .int .i64 13] w fun e w' => e = .returned (.int .i64 (cnt c 13)) ∧ Fr [] w w' := by
  rw [show cnt c 13 = c.b by simp [cnt], show cfgV c = .agg (cfgL c).toArray from rfl]
  have hm := Blk.new w 24 (cfgL c)
  have hsz : (cfgL c).length = 6 := rfl
  have g0 : (cfgL c)[0]? = some (.int .i64 c.t) := rfl
  have g1 : (cfgL c)[1]? = some (.int .i64 c.b) := rfl
  have c0 := (hm.cell 0).trans g0
  have c1 := (hm.cell 1).trans g1
  have HM := Lib.hid hm
  clear hm
  generalize cfgL c = cl at *
  go_enter Try.func131, Try.ntmps131
  go_wp2
  go_ret
  exact ⟨rfl, (Fr.refl [] _).alloc _⟩
set_option maxHeartbeats 1000000 in
theorem reach_13 (w : World) (c : Cfg) (h : Ok c) : Calls Try.prog 129 #[cfgV c, .int .i64 13] w fun e w' => e = .returned (.int .i64 (each c 13)) ∧ Fr [] w w' := by
  rw [show each c 13 = 1 by simp [each], show cfgV c = .agg (cfgL c).toArray from rfl]
  generalize cfgL c = cl at *
  go_enter Try.func129, Try.ntmps129
  go_wp2
  go_ret
  exact ⟨rfl, (Fr.refl [] _).alloc _⟩
set_option maxHeartbeats 1000000 in
theorem rcount_14 (w : World) (c : Cfg) : Calls Try.prog 131 #[cfgV c, .int .i64 14] w fun e w' => e = .returned (.int .i64 (cnt c 14)) ∧ Fr [] w w' := by
  rw [show cnt c 14 = 1 by simp [cnt], show cfgV c = .agg (cfgL c).toArray from rfl]
  have hm := Blk.new w 24 (cfgL c)
  have hsz : (cfgL c).length = 6 := rfl
  have g0 : (cfgL c)[0]? = some (.int .i64 c.t) := rfl
  have g1 : (cfgL c)[1]? = some (.int .i64 c.b) := rfl
  have c0 := (hm.cell 0).trans g0
  have c1 := (hm.cell 1).trans g1
  have HM := Lib.hid hm
  clear hm
  generalize cfgL c = cl at *
  go_enter Try.func131, Try.ntmps131
  go_wp2
  go_ret
  exact ⟨rfl, (Fr.refl [] _).alloc _⟩
set_option maxHeartbeats 1000000 in
theorem reach_14 (w : World) (c : Cfg) (h : Ok c) : Calls Try.prog 129 #[cfgV c, .int .i64 14] w fun e w' => e = .returned (.int .i64 (each c 14)) ∧ Fr [] w w' := by
  rw [show each c 14 = 1 by simp [each], show cfgV c = .agg (cfgL c).toArray from rfl]
  generalize cfgL c = cl at *
  go_enter Try.func129, Try.ntmps129
  go_wp2
  go_ret
  exact ⟨rfl, (Fr.refl [] _).alloc _⟩
set_option maxHeartbeats 1000000 in
theorem reach_15 (w : World) (c : Cfg) (h : Ok c) : Calls Try.prog 129 #[cfgV c, .int .i64 15] w fun e w' => e = .returned (.int .i64 (each c 15)) ∧ Fr [] w w' := by
  rw [show each c 15 = 1 by simp [each], show cfgV c = .agg (cfgL c).toArray from rfl]
  generalize cfgL c = cl at *
  go_enter Try.func129, Try.ntmps129
  go_wp2
  go_ret
  exact ⟨rfl, (Fr.refl [] _).alloc _⟩
set_option maxHeartbeats 1000000 in
theorem rcount_16 (w : World) (c : Cfg) : Calls Try.prog 131 #[cfgV c, .int .i64 16] w fun e w' => e = .returned (.int .i64 (cnt c 16)) ∧ Fr [] w w' := by
  rw [show cnt c 16 = c.b by simp [cnt], show cfgV c = .agg (cfgL c).toArray from rfl]
  have hm := Blk.new w 24 (cfgL c)
  have hsz : (cfgL c).length = 6 := rfl
  have g0 : (cfgL c)[0]? = some (.int .i64 c.t) := rfl
  have g1 : (cfgL c)[1]? = some (.int .i64 c.b) := rfl
  have c0 := (hm.cell 0).trans g0
  have c1 := (hm.cell 1).trans g1
  have HM := Lib.hid hm
  clear hm
  generalize cfgL c = cl at *
  go_enter Try.func131, Try.ntmps131
  go_wp2
  go_ret
  exact ⟨rfl, (Fr.refl [] _).alloc _⟩
set_option maxHeartbeats 1000000 in
theorem reach_16 (w : World) (c : Cfg) (h : Ok c) : Calls Try.prog 129 #[cfgV c, .int .i64 16] w fun e w' => e = .returned (.int .i64 (each c 16)) ∧ Fr [] w w' := by
  rw [show each c 16 = 8 by simp [each], show cfgV c = .agg (cfgL c).toArray from rfl]
  generalize cfgL c = cl at *
  go_enter Try.func129, Try.ntmps129
  go_wp2
  go_ret
  exact ⟨rfl, (Fr.refl [] _).alloc _⟩
set_option maxHeartbeats 1000000 in
theorem rcount_15 (w : World) (c : Cfg) (h : Ok c) : Calls Try.prog 131 #[cfgV c, .int .i64 15] w fun e w' => e = .returned (.int .i64 (cnt c 15)) ∧ Fr [] w w' := by
  rw [show cnt c 15 = limit c by simp [cnt]]
  have HC := Lib.hid (fun w => rlimit_any w c h)
  rw [show cfgV c = .agg (cfgL c).toArray from rfl] at *
  have hm := Blk.new w 24 (cfgL c)
  have hsz : (cfgL c).length = 6 := rfl
  have g0 : (cfgL c)[0]? = some (.int .i64 c.t) := rfl
  have g1 : (cfgL c)[1]? = some (.int .i64 c.b) := rfl
  have c0 := (hm.cell 0).trans g0
  have c1 := (hm.cell 1).trans g1
  have HM := Lib.hid hm
  clear hm
  generalize cfgL c = cl at *
  generalize limit c = q at *
  go_enter Try.func131, Try.ntmps131
  go_wp2_with (refine wpList_load_any 24 _ rfl rfl _ 0 rfl cl _ HM.out.range Try.underlying24 rfl (by rw [hsz]; kernel_rfl) ?_)
  refine (HC.out _).mono ?_
  rintro e w1 ⟨rfl, hf⟩
  have HF := Lib.hid hf; clear hf
  go_wp2_with fail
  go_ret
  exact ⟨rfl, ((Fr.refl [] _).alloc _).trans HF.out⟩
set_option maxHeartbeats 1000000 in
theorem reach_6 (w : World) (c : Cfg) (h : Ok c) : Calls Try.prog 129 #[cfgV c, .int .i64 6] w fun e w' => e = .returned (.int .i64 (each c 6)) ∧ Fr [] w w' := by
  rw [show each c 6 = cap c by simp [each]]
  have HC := Lib.hid (fun w => rcap_any w c h)
  rw [show cfgV c = .agg (cfgL c).toArray from rfl] at *
  have hm := Blk.new w 24 (cfgL c)
  have hsz : (cfgL c).length = 6 := rfl
  have g0 : (cfgL c)[0]? = some (.int .i64 c.t) := rfl
  have g1 : (cfgL c)[1]? = some (.int .i64 c.b) := rfl
  have c0 := (hm.cell 0).trans g0
  have c1 := (hm.cell 1).trans g1
  have HM := Lib.hid hm
  clear hm
  generalize cfgL c = cl at *
  generalize cap c = q at *
  go_enter Try.func129, Try.ntmps129
  go_wp2_with (refine wpList_load_any 24 _ rfl rfl _ 0 rfl cl _ HM.out.range Try.underlying24 rfl (by rw [hsz]; kernel_rfl) ?_)
  refine (HC.out _).mono ?_
  rintro e w1 ⟨rfl, hf⟩
  have HF := Lib.hid hf; clear hf
  go_wp2_with fail
  go_ret
  exact ⟨rfl, ((Fr.refl [] _).alloc _).trans HF.out⟩
theorem rcount_any (w : World) (c : Cfg) (h : Ok c) (kind : Int) (hk : 0 ≤ kind ∧ kind ≤ 16) : Calls Try.prog 131 #[cfgV c, .int .i64 kind] w fun e w' => e = .returned (.int .i64 (cnt c kind)) ∧ Fr [] w w' := by
  rcases kinds_ hk with rfl | rfl | rfl | rfl | rfl | rfl | rfl | rfl | rfl | rfl | rfl | rfl | rfl | rfl | rfl | rfl | rfl
  · exact rcount_0 w c
  · exact rcount_1 w c
  · exact rcount_2 w c
  · exact rcount_3 w c
  · exact rcount_4 w c
  · exact rcount_5 w c
  · exact rcount_6 w c
  · exact rcount_7 w c
  · exact rcount_8 w c
  · exact rcount_9 w c
  · exact rcount_10 w c
  · exact rcount_11 w c
  · exact rcount_12 w c
  · exact rcount_13 w c
  · exact rcount_14 w c
  · exact rcount_15 w c h
  · exact rcount_16 w c
theorem reach_any (w : World) (c : Cfg) (h : Ok c) (kind : Int) (hk : 0 ≤ kind ∧ kind ≤ 16) : Calls Try.prog 129 #[cfgV c, .int .i64 kind] w fun e w' => e = .returned (.int .i64 (each c kind)) ∧ Fr [] w w' := by
  rcases kinds_ hk with rfl | rfl | rfl | rfl | rfl | rfl | rfl | rfl | rfl | rfl | rfl | rfl | rfl | rfl | rfl | rfl | rfl
  · exact reach_0 w c h
  · exact reach_1 w c h
  · exact reach_2 w c h
  · exact reach_3 w c h
  · exact reach_4 w c h
  · exact reach_5 w c h
  · exact reach_6 w c h
  · exact reach_7 w c h
  · exact reach_8 w c h
  · exact reach_9 w c h
  · exact reach_10 w c h
  · exact reach_11 w c h
  · exact reach_12 w c h
  · exact reach_13 w c h
  · exact reach_14 w c h
  · exact reach_15 w c h
  · exact reach_16 w c h

/-! ### From -/
set_option maxHeartbeats 1000000 in
theorem rfrom_0 (w : World) (c : Cfg) (h : Ok c) : Calls Try.prog 81 #[cfgV c, .int .i64 0] w fun e w' => e = .returned (.int .i64 0) ∧ Fr [] w w' := by
  rw [show cfgV c = .agg (cfgL c).toArray from rfl]
  generalize cfgL c = cl
  go_enter Try.func81, Try.ntmps81
  go_wp2
  go_ret
  exact ⟨rfl, (Fr.refl [] _).alloc _⟩
set_option maxHeartbeats 1000000 in
theorem rfrom_1 (w : World) (c : Cfg) (h : Ok c) : Calls Try.prog 81 #[cfgV c, .int .i64 1] w fun e w' => e = .returned (.int .i64 1) ∧ Fr [] w w' := by
  rw [show cfgV c = .agg (cfgL c).toArray from rfl]
  generalize cfgL c = cl
  go_enter Try.func81, Try.ntmps81
  go_wp2
  go_ret
  exact ⟨rfl, (Fr.refl [] _).alloc _⟩
set_option maxHeartbeats 1000000 in
theorem rfrom_2 (w : World) (c : Cfg) (h : Ok c) : Calls Try.prog 81 #[cfgV c, .int .i64 2] w fun e w' => e = .returned (.int .i64 2) ∧ Fr [] w w' := by
  have HA := Lib.hid (fun w => rfrom_1 w c h)
  have HB := Lib.hid (fun w => reach_1 w c h)
  rw [show each c 1 = 1 by simp [each]] at HB
  rw [show cfgV c = .agg (cfgL c).toArray from rfl] at *
  have hmd := (Blk.new w 24 (cfgL c)).drew
  have hsz : (cfgL c).length = 6 := rfl
  generalize cfgL c = cl at *
  clear h
  go_enter Try.func81, Try.ntmps81
  go_wp2
  refine wp_region_fr [(1, [0, 1, 2, 4, 5, 6]), (2, [3]), (3, [7]), (0, [8, 9])] [] (by kernel_rfl) (by kernel_rfl) ?_
  simp only [theOps, nthOp, List.map_cons, List.map_nil, Array.getD_eq_getD_getElem?, List.getElem?_toArray, List.getElem?_cons_succ, List.getElem?_cons_zero, Option.getD_some]
  refine wpSegs_soft ?_
  refine wpQuiet_load_mid 24 _ w.heap.size 0 cl _ rfl rfl rfl (rangeAt_after hmd (by simp)) Try.underlying24 rfl (by rw [hsz]; kernel_rfl) ?_
  simp only [Act.put, List.setIfInBounds_toArray, List.set_cons_zero, List.set_cons_succ]
  iterate 2 (first | go_big_quiet_step (fail) | quiet_step (fail))
  refine wpQuiet_load_mid 24 _ w.heap.size 0 cl _ rfl rfl rfl (rangeAt_after hmd (by simp)) Try.underlying24 rfl (by rw [hsz]; kernel_rfl) ?_
  simp only [Act.put, List.setIfInBounds_toArray, List.set_cons_zero, List.set_cons_succ]
  iterate 2 (first | go_big_quiet_step (fail) | quiet_step (fail))
  refine wpQuiet_nil ?_
  refine wpSegs_keep ?_
  go_wp2_with fail
  refine (HA.out _).mono ?_
  rintro e w1 ⟨rfl, hf⟩
  have HF := Lib.hid hf; clear hf
  go_wp2_with fail
  refine ⟨⟨⟨_, (by exact HF.out)⟩, rfl⟩, ?_⟩
  refine wpSegs_hard ?_
  go_wp2_with fail
  refine (HB.out _).mono ?_
  rintro e w2 ⟨rfl, hf⟩
  have HF2 := Lib.hid (HF.out.trans hf); clear hf
  go_wp2_with fail
  repeat ((first | refine wpSegs_soft ?_ | refine wpSegs_pure ?_ | refine wpSegs_here ?_); (repeat (first | go_big_quiet_step (fail) | quiet_step (fail))); refine wpQuiet_nil ?_)
  refine wpSegs_done ?_
  go_wp2_with fail
  go_ret
  exact ⟨rfl, (((Fr.refl [] _).alloc _).drew).trans HF2.out⟩
set_option maxHeartbeats 1000000 in
theorem rfrom_3 (w : World) (c : Cfg) (h : Ok c) : Calls Try.prog 81 #[cfgV c, .int .i64 3] w fun e w' => e = .returned (.int .i64 6) ∧ Fr [] w w' := by
  have HA := Lib.hid (fun w => rfrom_2 w c h)
  have HB := Lib.hid (fun w => reach_2 w c h)
  rw [show each c 2 = 4 by simp [each]] at HB
  rw [show cfgV c = .agg (cfgL c).toArray from rfl] at *
  have hmd := (Blk.new w 24 (cfgL c)).drew
  have hsz : (cfgL c).length = 6 := rfl
  generalize cfgL c = cl at *
  clear h
  go_enter Try.func81, Try.ntmps81
  go_wp2
  refine wp_region_fr [(1, [0, 1, 2, 4, 5, 6]), (2, [3]), (3, [7]), (0, [8, 9])] [] (by kernel_rfl) (by kernel_rfl) ?_
  simp only [theOps, nthOp, List.map_cons, List.map_nil, Array.getD_eq_getD_getElem?, List.getElem?_toArray, List.getElem?_cons_succ, List.getElem?_cons_zero, Option.getD_some]
  refine wpSegs_soft ?_
  refine wpQuiet_load_mid 24 _ w.heap.size 0 cl _ rfl rfl rfl (rangeAt_after hmd (by simp)) Try.underlying24 rfl (by rw [hsz]; kernel_rfl) ?_
  simp only [Act.put, List.setIfInBounds_toArray, List.set_cons_zero, List.set_cons_succ]
  iterate 2 (first | go_big_quiet_step (fail) | quiet_step (fail))
  refine wpQuiet_load_mid 24 _ w.heap.size 0 cl _ rfl rfl rfl (rangeAt_after hmd (by simp)) Try.underlying24 rfl (by rw [hsz]; kernel_rfl) ?_
  simp only [Act.put, List.setIfInBounds_toArray, List.set_cons_zero, List.set_cons_succ]
  iterate 2 (first | go_big_quiet_step (fail) | quiet_step (fail))
  refine wpQuiet_nil ?_
  refine wpSegs_keep ?_
  go_wp2_with fail
  refine (HA.out _).mono ?_
  rintro e w1 ⟨rfl, hf⟩
  have HF := Lib.hid hf; clear hf
  go_wp2_with fail
  refine ⟨⟨⟨_, (by exact HF.out)⟩, rfl⟩, ?_⟩
  refine wpSegs_hard ?_
  go_wp2_with fail
  refine (HB.out _).mono ?_
  rintro e w2 ⟨rfl, hf⟩
  have HF2 := Lib.hid (HF.out.trans hf); clear hf
  go_wp2_with fail
  repeat ((first | refine wpSegs_soft ?_ | refine wpSegs_pure ?_ | refine wpSegs_here ?_); (repeat (first | go_big_quiet_step (fail) | quiet_step (fail))); refine wpQuiet_nil ?_)
  refine wpSegs_done ?_
  go_wp2_with fail
  go_ret
  exact ⟨rfl, (((Fr.refl [] _).alloc _).drew).trans HF2.out⟩
set_option maxHeartbeats 1000000 in
theorem rfrom_4 (w : World) (c : Cfg) (h : Ok c) : Calls Try.prog 81 #[cfgV c, .int .i64 4] w fun e w' => e = .returned (.int .i64 7) ∧ Fr [] w w' := by
  have HA := Lib.hid (fun w => rfrom_3 w c h)
  have HB := Lib.hid (fun w => reach_3 w c h)
  rw [show each c 3 = 1 by simp [each]] at HB
  rw [show cfgV c = .agg (cfgL c).toArray from rfl] at *
  have hmd := (Blk.new w 24 (cfgL c)).drew
  have hsz : (cfgL c).length = 6 := rfl
  generalize cfgL c = cl at *
  clear h
  go_enter Try.func81, Try.ntmps81
  go_wp2
  refine wp_region_fr [(1, [0, 1, 2, 4, 5, 6]), (2, [3]), (3, [7]), (0, [8, 9])] [] (by kernel_rfl) (by kernel_rfl) ?_
  simp only [theOps, nthOp, List.map_cons, List.map_nil, Array.getD_eq_getD_getElem?, List.getElem?_toArray, List.getElem?_cons_succ, List.getElem?_cons_zero, Option.getD_some]
  refine wpSegs_soft ?_
  refine wpQuiet_load_mid 24 _ w.heap.size 0 cl _ rfl rfl rfl (rangeAt_after hmd (by simp)) Try.underlying24 rfl (by rw [hsz]; kernel_rfl) ?_
  simp only [Act.put, List.setIfInBounds_toArray, List.set_cons_zero, List.set_cons_succ]
  iterate 2 (first | go_big_quiet_step (fail) | quiet_step (fail))
  refine wpQuiet_load_mid 24 _ w.heap.size 0 cl _ rfl rfl rfl (rangeAt_after hmd (by simp)) Try.underlying24 rfl (by rw [hsz]; kernel_rfl) ?_
  simp only [Act.put, List.setIfInBounds_toArray, List.set_cons_zero, List.set_cons_succ]
  iterate 2 (first | go_big_quiet_step (fail) | quiet_step (fail))
  refine wpQuiet_nil ?_
  refine wpSegs_keep ?_
  go_wp2_with fail
  refine (HA.out _).mono ?_
  rintro e w1 ⟨rfl, hf⟩
  have HF := Lib.hid hf; clear hf
  go_wp2_with fail
  refine ⟨⟨⟨_, (by exact HF.out)⟩, rfl⟩, ?_⟩
  refine wpSegs_hard ?_
  go_wp2_with fail
  refine (HB.out _).mono ?_
  rintro e w2 ⟨rfl, hf⟩
  have HF2 := Lib.hid (HF.out.trans hf); clear hf
  go_wp2_with fail
  repeat ((first | refine wpSegs_soft ?_ | refine wpSegs_pure ?_ | refine wpSegs_here ?_); (repeat (first | go_big_quiet_step (fail) | quiet_step (fail))); refine wpQuiet_nil ?_)
  refine wpSegs_done ?_
  go_wp2_with fail
  go_ret
  exact ⟨rfl, (((Fr.refl [] _).alloc _).drew).trans HF2.out⟩
set_option maxHeartbeats 1000000 in
theorem rfrom_5 (w : World) (c : Cfg) (h : Ok c) : Calls Try.prog 81 #[cfgV c, .int .i64 5] w fun e w' => e = .returned (.int .i64 8) ∧ Fr [] w w' := by
  have HA := Lib.hid (fun w => rfrom_4 w c h)
  have HB := Lib.hid (fun w => reach_4 w c h)
  rw [show each c 4 = 1 by simp [each]] at HB
  rw [show cfgV c = .agg (cfgL c).toArray from rfl] at *
  have hmd := (Blk.new w 24 (cfgL c)).drew
  have hsz : (cfgL c).length = 6 := rfl
  generalize cfgL c = cl at *
  clear h
  go_enter Try.func81, Try.ntmps81
  go_wp2
  refine wp_region_fr [(1, [0, 1, 2, 4, 5, 6]), (2, [3]), (3, [7]), (0, [8, 9])] [] (by kernel_rfl) (by kernel_rfl) ?_
  simp only [theOps, nthOp, List.map_cons, List.map_nil, Array.getD_eq_getD_getElem?, List.getElem?_toArray, List.getElem?_cons_succ, List.getElem?_cons_zero, Option.getD_some]
  refine wpSegs_soft ?_
  refine wpQuiet_load_mid 24 _ w.heap.size 0 cl _ rfl rfl rfl (rangeAt_after hmd (by simp)) Try.underlying24 rfl (by rw [hsz]; kernel_rfl) ?_
  simp only [Act.put, List.setIfInBounds_toArray, List.set_cons_zero, List.set_cons_succ]
  iterate 2 (first | go_big_quiet_step (fail) | quiet_step (fail))
  refine wpQuiet_load_mid 24 _ w.heap.size 0 cl _ rfl rfl rfl (rangeAt_after hmd (by simp)) Try.underlying24 rfl (by rw [hsz]; kernel_rfl) ?_
  simp only [Act.put, List.setIfInBounds_toArray, List.set_cons_zero, List.set_cons_succ]
  iterate 2 (first | go_big_quiet_step (fail) | quiet_step (fail))
  refine wpQuiet_nil ?_
  refine wpSegs_keep ?_
  go_wp2_with fail
  refine (HA.out _).mono ?_
  rintro e w1 ⟨rfl, hf⟩
  have HF := Lib.hid hf; clear hf
  go_wp2_with fail
  refine ⟨⟨⟨_, (by exact HF.out)⟩, rfl⟩, ?_⟩
  refine wpSegs_hard ?_
  go_wp2_with fail
  refine (HB.out _).mono ?_
  rintro e w2 ⟨rfl, hf⟩
  have HF2 := Lib.hid (HF.out.trans hf); clear hf
  go_wp2_with fail
  repeat ((first | refine wpSegs_soft ?_ | refine wpSegs_pure ?_ | refine wpSegs_here ?_); (repeat (first | go_big_quiet_step (fail) | quiet_step (fail))); refine wpQuiet_nil ?_)
  refine wpSegs_done ?_
  go_wp2_with fail
  go_ret
  exact ⟨rfl, (((Fr.refl [] _).alloc _).drew).trans HF2.out⟩
set_option maxHeartbeats 1000000 in
theorem rfrom_6 (w : World) (c : Cfg) (h : Ok c) : Calls Try.prog 81 #[cfgV c, .int .i64 6] w fun e w' => e = .returned (.int .i64 9) ∧ Fr [] w w' := by
  have HA := Lib.hid (fun w => rfrom_5 w c h)
  have HB := Lib.hid (fun w => reach_5 w c h)
  rw [show each c 5 = 1 by simp [each]] at HB
  rw [show cfgV c = .agg (cfgL c).toArray from rfl] at *
  have hmd := (Blk.new w 24 (cfgL c)).drew
  have hsz : (cfgL c).length = 6 := rfl
  generalize cfgL c = cl at *
  clear h
  go_enter Try.func81, Try.ntmps81
  go_wp2
  refine wp_region_fr [(1, [0, 1, 2, 4, 5, 6]), (2, [3]), (3, [7]), (0, [8, 9])] [] (by kernel_rfl) (by kernel_rfl) ?_
  simp only [theOps, nthOp, List.map_cons, List.map_nil, Array.getD_eq_getD_getElem?, List.getElem?_toArray, List.getElem?_cons_succ, List.getElem?_cons_zero, Option.getD_some]
  refine wpSegs_soft ?_
  refine wpQuiet_load_mid 24 _ w.heap.size 0 cl _ rfl rfl rfl (rangeAt_after hmd (by simp)) Try.underlying24 rfl (by rw [hsz]; kernel_rfl) ?_
  simp only [Act.put, List.setIfInBounds_toArray, List.set_cons_zero, List.set_cons_succ]
  iterate 2 (first | go_big_quiet_step (fail) | quiet_step (fail))
  refine wpQuiet_load_mid 24 _ w.heap.size 0 cl _ rfl rfl rfl (rangeAt_after hmd (by simp)) Try.underlying24 rfl (by rw [hsz]; kernel_rfl) ?_
  simp only [Act.put, List.setIfInBounds_toArray, List.set_cons_zero, List.set_cons_succ]
  iterate 2 (first | go_big_quiet_step (fail) | quiet_step (fail))
  refine wpQuiet_nil ?_
  refine wpSegs_keep ?_
  go_wp2_with fail
  refine (HA.out _).mono ?_
  rintro e w1 ⟨rfl, hf⟩
  have HF := Lib.hid hf; clear hf
  go_wp2_with fail
  refine ⟨⟨⟨_, (by exact HF.out)⟩, rfl⟩, ?_⟩
  refine wpSegs_hard ?_
  go_wp2_with fail
  refine (HB.out _).mono ?_
  rintro e w2 ⟨rfl, hf⟩
  have HF2 := Lib.hid (HF.out.trans hf); clear hf
  go_wp2_with fail
  repeat ((first | refine wpSegs_soft ?_ | refine wpSegs_pure ?_ | refine wpSegs_here ?_); (repeat (first | go_big_quiet_step (fail) | quiet_step (fail))); refine wpQuiet_nil ?_)
  refine wpSegs_done ?_
  go_wp2_with fail
  go_ret
  exact ⟨rfl, (((Fr.refl [] _).alloc _).drew).trans HF2.out⟩
set_option maxHeartbeats 1000000 in
theorem rfrom_7 (w : World) (c : Cfg) (h : Ok c) : Calls Try.prog 81 #[cfgV c, .int .i64 7] w fun e w' => e = .returned (.int .i64 (fTag c)) ∧ Fr [] w w' := by
  have HA := Lib.hid (fun w => rstride_any w c h)
  have htb := ts_bd h
  rw [show fTag c = 1 + c.t * stride c from rfl]
  rw [show cfgV c = .agg (cfgL c).toArray from rfl] at *
  have hm := Blk.new w 24 (cfgL c)
  have hsz : (cfgL c).length = 6 := rfl
  have g0 : (cfgL c)[0]? = some (.int .i64 c.t) := rfl
  have g1 : (cfgL c)[1]? = some (.int .i64 c.b) := rfl
  have c0 := (hm.cell 0).trans g0
  have c1 := (hm.cell 1).trans g1
  have HM := Lib.hid hm
  clear hm
  have hmd := HM.out.drew
  generalize cfgL c = cl at *
  generalize stride c = s at *
  clear h
  go_enter Try.func81, Try.ntmps81
  go_wp2
  refine wp_region_fr [(1, [0, 1, 2]), (2, [3]), (0, [4, 5, 6])] [] (by kernel_rfl) (by kernel_rfl) ?_
  simp only [theOps, nthOp, List.map_cons, List.map_nil, Array.getD_eq_getD_getElem?, List.getElem?_toArray, List.getElem?_cons_succ, List.getElem?_cons_zero, Option.getD_some]
  refine wpSegs_soft ?_
  iterate 2 (first | go_big_quiet_step (fail) | quiet_step (fail))
  refine wpQuiet_load_mid 24 _ w.heap.size 0 cl _ rfl rfl rfl (rangeAt_after hmd (by simp)) Try.underlying24 rfl (by rw [hsz]; kernel_rfl) ?_
  simp only [Act.put, List.setIfInBounds_toArray, List.set_cons_zero, List.set_cons_succ]
  refine wpQuiet_nil ?_
  refine wpSegs_keep ?_
  go_wp2_with fail
  refine (HA.out _).mono ?_
  rintro e w1 ⟨rfl, hf⟩
  have HF := Lib.hid hf; clear hf
  go_wp2_with fail
  refine ⟨⟨⟨_, (by exact HF.out)⟩, rfl⟩, ?_⟩
  repeat ((first | refine wpSegs_soft ?_ | refine wpSegs_pure ?_ | refine wpSegs_here ?_); (repeat (first | go_big_quiet_step (fail) | quiet_step (fail))); refine wpQuiet_nil ?_)
  refine wpSegs_done ?_
  go_wp2_with fail
  go_ret
  generalize 1 + c.t * s = res
  exact ⟨rfl, (((Fr.refl [] _).alloc _).drew).trans HF.out⟩
set_option maxHeartbeats 1000000 in
theorem rfrom_8 (w : World) (c : Cfg) (h : Ok c) : Calls Try.prog 81 #[cfgV c, .int .i64 8] w fun e w' => e = .returned (.int .i64 (fTag c + 8 - 7)) ∧ Fr [] w w' := by
  have HA := Lib.hid (fun w => rfrom_7 w c h)
  have htb := (bds h).tag
  rw [show cfgV c = .agg (cfgL c).toArray from rfl] at *
  have hm := Blk.new w 24 (cfgL c)
  have hsz : (cfgL c).length = 6 := rfl
  have g0 : (cfgL c)[0]? = some (.int .i64 c.t) := rfl
  have g1 : (cfgL c)[1]? = some (.int .i64 c.b) := rfl
  have c0 := (hm.cell 0).trans g0
  have c1 := (hm.cell 1).trans g1
  have HM := Lib.hid hm
  clear hm
  generalize cfgL c = cl at *
  generalize fTag c = s at *
  clear h
  go_enter Try.func81, Try.ntmps81
  go_wp2_with (refine wpList_load_any 24 _ rfl rfl _ 0 rfl cl _ HM.out.range Try.underlying24 rfl (by rw [hsz]; kernel_rfl) ?_)
  refine (HA.out _).mono ?_
  rintro e w1 ⟨rfl, hf⟩
  have HF := Lib.hid hf; clear hf
  go_wp2_with fail
  go_ret
  generalize s + 8 - 7 = res
  exact ⟨rfl, ((Fr.refl [] _).alloc _).trans HF.out⟩
set_option maxHeartbeats 1000000 in
theorem rfrom_9 (w : World) (c : Cfg) (h : Ok c) : Calls Try.prog 81 #[cfgV c, .int .i64 9] w fun e w' => e = .returned (.int .i64 (fTag c + 9 - 7)) ∧ Fr [] w w' := by
  have HA := Lib.hid (fun w => rfrom_7 w c h)
  have htb := (bds h).tag
  rw [show cfgV c = .agg (cfgL c).toArray from rfl] at *
  have hm := Blk.new w 24 (cfgL c)
  have hsz : (cfgL c).length = 6 := rfl
  have g0 : (cfgL c)[0]? = some (.int .i64 c.t) := rfl
  have g1 : (cfgL c)[1]? = some (.int .i64 c.b) := rfl
  have c0 := (hm.cell 0).trans g0
  have c1 := (hm.cell 1).trans g1
  have HM := Lib.hid hm
  clear hm
  generalize cfgL c = cl at *
  generalize fTag c = s at *
  clear h
  go_enter Try.func81, Try.ntmps81
  go_wp2_with (refine wpList_load_any 24 _ rfl rfl _ 0 rfl cl _ HM.out.range Try.underlying24 rfl (by rw [hsz]; kernel_rfl) ?_)
  refine (HA.out _).mono ?_
  rintro e w1 ⟨rfl, hf⟩
  have HF := Lib.hid hf; clear hf
  go_wp2_with fail
  go_ret
  generalize s + 9 - 7 = res
  exact ⟨rfl, ((Fr.refl [] _).alloc _).trans HF.out⟩
set_option maxHeartbeats 1000000 in
theorem rfrom_10 (w : World) (c : Cfg) (h : Ok c) : Calls Try.prog 81 #[cfgV c, .int .i64 10] w fun e w' => e = .returned (.int .i64 (fRoot c)) ∧ Fr [] w w' := by
  have HA := Lib.hid (fun w => rfrom_7 w c h)
  have htb := (bds h).tag
  have ht3 : 0 ≤ 3 * c.t ∧ 3 * c.t ≤ 24 := by have := h.t1; have := h.t8; omega
  rw [show fRoot c = fTag c + 3 * c.t by unfold fRoot; omega]
  rw [show cfgV c = .agg (cfgL c).toArray from rfl] at *
  have hm := Blk.new w 24 (cfgL c)
  have hsz : (cfgL c).length = 6 := rfl
  have g0 : (cfgL c)[0]? = some (.int .i64 c.t) := rfl
  have g1 : (cfgL c)[1]? = some (.int .i64 c.b) := rfl
  have c0 := (hm.cell 0).trans g0
  have c1 := (hm.cell 1).trans g1
  have HM := Lib.hid hm
  clear hm
  have hmd := HM.out.drew
  generalize cfgL c = cl at *
  generalize fTag c = s at *
  clear h
  go_enter Try.func81, Try.ntmps81
  go_wp2
  refine wp_region_fr [(1, [0, 2, 3, 4]), (2, [1]), (0, [5, 6])] [] (by kernel_rfl) (by kernel_rfl) ?_
  simp only [theOps, nthOp, List.map_cons, List.map_nil, Array.getD_eq_getD_getElem?, List.getElem?_toArray, List.getElem?_cons_succ, List.getElem?_cons_zero, Option.getD_some]
  refine wpSegs_soft ?_
  refine wpQuiet_load_mid 24 _ w.heap.size 0 cl _ rfl rfl rfl (rangeAt_after hmd (by simp)) Try.underlying24 rfl (by rw [hsz]; kernel_rfl) ?_
  simp only [Act.put, List.setIfInBounds_toArray, List.set_cons_zero, List.set_cons_succ]
  repeat (first | go_big_quiet_step (fail) | quiet_step (fail))
  refine wpQuiet_nil ?_
  refine wpSegs_keep ?_
  go_wp2_with fail
  refine (HA.out _).mono ?_
  rintro e w1 ⟨rfl, hf⟩
  have HF := Lib.hid hf; clear hf
  go_wp2_with fail
  refine ⟨⟨⟨_, (by exact HF.out)⟩, rfl⟩, ?_⟩
  repeat ((first | refine wpSegs_soft ?_ | refine wpSegs_pure ?_ | refine wpSegs_here ?_); (repeat (first | go_big_quiet_step (fail) | quiet_step (fail))); refine wpQuiet_nil ?_)
  refine wpSegs_done ?_
  go_wp2_with fail
  go_ret
  generalize s + 3 * c.t = res
  exact ⟨rfl, (((Fr.refl [] _).alloc _).drew).trans HF.out⟩
set_option maxHeartbeats 1000000 in
theorem rfrom_11 (w : World) (c : Cfg) (h : Ok c) : Calls Try.prog 81 #[cfgV c, .int .i64 11] w fun e w' => e = .returned (.int .i64 (fLife c)) ∧ Fr [] w w' := by
  have HA := Lib.hid (fun w => rfrom_10 w c h)
  have HB := Lib.hid (fun w => rcount_any w c h 10 (by omega))
  have HC := Lib.hid (fun w => reach_any w c h 10 (by omega))
  have htb : 0 ≤ fRoot c ∧ fRoot c ≤ 18100 := fromP_bd h 10
  have hpr : 0 ≤ cnt c 10 * each c 10 ∧ cnt c 10 * each c 10 ≤ 520 := by
    have := limit_pos h; have := h.b1; have := h.b64
    have e1 : cnt c 10 = 16 := by simp [cnt]
    have e2 : each c 10 = 1 := by simp [each]
    rw [e1, e2]; omega
  rw [show fLife c = fRoot c + cnt c 10 * each c 10 by simp [cnt, each, fLife]]
  rw [show cfgV c = .agg (cfgL c).toArray from rfl] at *
  have hmd := (Blk.new w 24 (cfgL c)).drew
  have hsz : (cfgL c).length = 6 := rfl
  generalize cfgL c = cl at *
  generalize fRoot c = s, cnt c 10 = n, each c 10 = m at *
  clear h
  go_enter Try.func81, Try.ntmps81
  go_wp2
  refine wp_region_fr [(1, [0, 1, 2, 4, 5, 6, 8, 9, 10]), (2, [3]), (2, [7]), (3, [11]), (0, [12, 13, 14])] [] (by kernel_rfl) (by kernel_rfl) ?_
  simp only [theOps, nthOp, List.map_cons, List.map_nil, Array.getD_eq_getD_getElem?, List.getElem?_toArray, List.getElem?_cons_succ, List.getElem?_cons_zero, Option.getD_some]
  refine wpSegs_soft ?_
  refine wpQuiet_load_mid 24 _ w.heap.size 0 cl _ rfl rfl rfl (rangeAt_after hmd (by simp)) Try.underlying24 rfl (by rw [hsz]; kernel_rfl) ?_
  simp only [Act.put, List.setIfInBounds_toArray, List.set_cons_zero, List.set_cons_succ]
  iterate 2 (first | go_big_quiet_step (fail) | quiet_step (fail))
  refine wpQuiet_load_mid 24 _ w.heap.size 0 cl _ rfl rfl rfl (rangeAt_after hmd (by simp)) Try.underlying24 rfl (by rw [hsz]; kernel_rfl) ?_
  simp only [Act.put, List.setIfInBounds_toArray, List.set_cons_zero, List.set_cons_succ]
  iterate 2 (first | go_big_quiet_step (fail) | quiet_step (fail))
  refine wpQuiet_load_mid 24 _ w.heap.size 0 cl _ rfl rfl rfl (rangeAt_after hmd (by simp)) Try.underlying24 rfl (by rw [hsz]; kernel_rfl) ?_
  simp only [Act.put, List.setIfInBounds_toArray, List.set_cons_zero, List.set_cons_succ]
  iterate 2 (first | go_big_quiet_step (fail) | quiet_step (fail))
  refine wpQuiet_nil ?_
  refine wpSegs_keep ?_
  go_wp2_with fail
  refine (HA.out _).mono ?_
  rintro e w1 ⟨rfl, hf⟩
  have HF := Lib.hid hf; clear hf
  go_wp2_with fail
  refine ⟨⟨⟨_, (by exact HF.out)⟩, rfl⟩, ?_⟩
  refine wpSegs_keep ?_
  go_wp2_with fail
  refine (HB.out _).mono ?_
  rintro e w2 ⟨rfl, hf⟩
  have HF2 := Lib.hid (HF.out.trans hf); clear hf
  go_wp2_with fail
  refine ⟨⟨⟨_, (by exact HF2.out)⟩, rfl⟩, ?_⟩
  refine wpSegs_hard ?_
  go_wp2_with fail
  refine (HC.out _).mono ?_
  rintro e w3 ⟨rfl, hf⟩
  have HF3 := Lib.hid (HF2.out.trans hf); clear hf
  go_wp2_with fail
  repeat ((first | refine wpSegs_soft ?_ | refine wpSegs_pure ?_ | refine wpSegs_here ?_); (repeat (first | go_big_quiet_step (fail) | quiet_step (fail))); refine wpQuiet_nil ?_)
  refine wpSegs_done ?_
  go_wp2_with fail
  go_ret
  generalize s + n * m = res
  exact ⟨rfl, (((Fr.refl [] _).alloc _).drew).trans HF3.out⟩
set_option maxHeartbeats 1000000 in
theorem rfrom_12 (w : World) (c : Cfg) (h : Ok c) : Calls Try.prog 81 #[cfgV c, .int .i64 12] w fun e w' => e = .returned (.int .i64 (fTop c)) ∧ Fr [] w w' := by
  have HA := Lib.hid (fun w => rfrom_11 w c h)
  have HB := Lib.hid (fun w => rcount_any w c h 11 (by omega))
  have HC := Lib.hid (fun w => reach_any w c h 11 (by omega))
  have htb : 0 ≤ fLife c ∧ fLife c ≤ 18100 := fromP_bd h 11
  have hpr : 0 ≤ cnt c 11 * each c 11 ∧ cnt c 11 * each c 11 ≤ 520 := by
    have := limit_pos h; have := h.b1; have := h.b64
    have e1 : cnt c 11 = c.b := by simp [cnt]
    have e2 : each c 11 = 1 := by simp [each]
    rw [e1, e2]; omega
  rw [show fTop c = fLife c + cnt c 11 * each c 11 by simp [cnt, each, fTop]]
  rw [show cfgV c = .agg (cfgL c).toArray from rfl] at *
  have hmd := (Blk.new w 24 (cfgL c)).drew
  have hsz : (cfgL c).length = 6 := rfl
  generalize cfgL c = cl at *
  generalize fLife c = s, cnt c 11 = n, each c 11 = m at *
  clear h
  go_enter Try.func81, Try.ntmps81
  go_wp2
  refine wp_region_fr [(1, [0, 1, 2, 4, 5, 6, 8, 9, 10]), (2, [3]), (2, [7]), (3, [11]), (0, [12, 13, 14])] [] (by kernel_rfl) (by kernel_rfl) ?_
  simp only [theOps, nthOp, List.map_cons, List.map_nil, Array.getD_eq_getD_getElem?, List.getElem?_toArray, List.getElem?_cons_succ, List.getElem?_cons_zero, Option.getD_some]
  refine wpSegs_soft ?_
  refine wpQuiet_load_mid 24 _ w.heap.size 0 cl _ rfl rfl rfl (rangeAt_after hmd (by simp)) Try.underlying24 rfl (by rw [hsz]; kernel_rfl) ?_
  simp only [Act.put, List.setIfInBounds_toArray, List.set_cons_zero, List.set_cons_succ]
  iterate 2 (first | go_big_quiet_step (fail) | quiet_step (fail))
  refine wpQuiet_load_mid 24 _ w.heap.size 0 cl _ rfl rfl rfl (rangeAt_after hmd (by simp)) Try.underlying24 rfl (by rw [hsz]; kernel_rfl) ?_
  simp only [Act.put, List.setIfInBounds_toArray, List.set_cons_zero, List.set_cons_succ]
  iterate 2 (first | go_big_quiet_step (fail) | quiet_step (fail))
  refine wpQuiet_load_mid 24 _ w.heap.size 0 cl _ rfl rfl rfl (rangeAt_after hmd (by simp)) Try.underlying24 rfl (by rw [hsz]; kernel_rfl) ?_
  simp only [Act.put, List.setIfInBounds_toArray, List.set_cons_zero, List.set_cons_succ]
  iterate 2 (first | go_big_quiet_step (fail) | quiet_step (fail))
  refine wpQuiet_nil ?_
  refine wpSegs_keep ?_
  go_wp2_with fail
  refine (HA.out _).mono ?_
  rintro e w1 ⟨rfl, hf⟩
  have HF := Lib.hid hf; clear hf
  go_wp2_with fail
  refine ⟨⟨⟨_, (by exact HF.out)⟩, rfl⟩, ?_⟩
  refine wpSegs_keep ?_
  go_wp2_with fail
  refine (HB.out _).mono ?_
  rintro e w2 ⟨rfl, hf⟩
  have HF2 := Lib.hid (HF.out.trans hf); clear hf
  go_wp2_with fail
  refine ⟨⟨⟨_, (by exact HF2.out)⟩, rfl⟩, ?_⟩
  refine wpSegs_hard ?_
  go_wp2_with fail
  refine (HC.out _).mono ?_
  rintro e w3 ⟨rfl, hf⟩
  have HF3 := Lib.hid (HF2.out.trans hf); clear hf
  go_wp2_with fail
  repeat ((first | refine wpSegs_soft ?_ | refine wpSegs_pure ?_ | refine wpSegs_here ?_); (repeat (first | go_big_quiet_step (fail) | quiet_step (fail))); refine wpQuiet_nil ?_)
  refine wpSegs_done ?_
  go_wp2_with fail
  go_ret
  generalize s + n * m = res
  exact ⟨rfl, (((Fr.refl [] _).alloc _).drew).trans HF3.out⟩
set_option maxHeartbeats 1000000 in
theorem rfrom_13 (w : World) (c : Cfg) (h : Ok c) : Calls Try.prog 81 #[cfgV c, .int .i64 13] w fun e w' => e = .returned (.int .i64 (fStack c)) ∧ Fr [] w w' := by
  have HA := Lib.hid (fun w => rfrom_12 w c h)
  have HB := Lib.hid (fun w => rcount_any w c h 12 (by omega))
  have HC := Lib.hid (fun w => reach_any w c h 12 (by omega))
  have htb : 0 ≤ fTop c ∧ fTop c ≤ 18100 := fromP_bd h 12
  have hpr : 0 ≤ cnt c 12 * each c 12 ∧ cnt c 12 * each c 12 ≤ 520 := by
    have := limit_pos h; have := h.b1; have := h.b64
    have e1 : cnt c 12 = 1 := by simp [cnt]
    have e2 : each c 12 = 1 := by simp [each]
    rw [e1, e2]; omega
  rw [show fStack c = fTop c + cnt c 12 * each c 12 by simp [cnt, each, fStack]]
  rw [show cfgV c = .agg (cfgL c).toArray from rfl] at *
  have hmd := (Blk.new w 24 (cfgL c)).drew
  have hsz : (cfgL c).length = 6 := rfl
  generalize cfgL c = cl at *
  generalize fTop c = s, cnt c 12 = n, each c 12 = m at *
  clear h
  go_enter Try.func81, Try.ntmps81
  go_wp2
  refine wp_region_fr [(1, [0, 1, 2, 4, 5, 6, 8, 9, 10]), (2, [3]), (2, [7]), (3, [11]), (0, [12, 13, 14])] [] (by kernel_rfl) (by kernel_rfl) ?_
  simp only [theOps, nthOp, List.map_cons, List.map_nil, Array.getD_eq_getD_getElem?, List.getElem?_toArray, List.getElem?_cons_succ, List.getElem?_cons_zero, Option.getD_some]
  refine wpSegs_soft ?_
  refine wpQuiet_load_mid 24 _ w.heap.size 0 cl _ rfl rfl rfl (rangeAt_after hmd (by simp)) Try.underlying24 rfl (by rw [hsz]; kernel_rfl) ?_
  simp only [Act.put, List.setIfInBounds_toArray, List.set_cons_zero, List.set_cons_succ]
  iterate 2 (first | go_big_quiet_step (fail) | quiet_step (fail))
  refine wpQuiet_load_mid 24 _ w.heap.size 0 cl _ rfl rfl rfl (rangeAt_after hmd (by simp)) Try.underlying24 rfl (by rw [hsz]; kernel_rfl) ?_
  simp only [Act.put, List.setIfInBounds_toArray, List.set_cons_zero, List.set_cons_succ]
  iterate 2 (first | go_big_quiet_step (fail) | quiet_step (fail))
  refine wpQuiet_load_mid 24 _ w.heap.size 0 cl _ rfl rfl rfl (rangeAt_after hmd (by simp)) Try.underlying24 rfl (by rw [hsz]; kernel_rfl) ?_
  simp only [Act.put, List.setIfInBounds_toArray, List.set_cons_zero, List.set_cons_succ]
  iterate 2 (first | go_big_quiet_step (fail) | quiet_step (fail))
  refine wpQuiet_nil ?_
  refine wpSegs_keep ?_
  go_wp2_with fail
  refine (HA.out _).mono ?_
  rintro e w1 ⟨rfl, hf⟩
  have HF := Lib.hid hf; clear hf
  go_wp2_with fail
  refine ⟨⟨⟨_, (by exact HF.out)⟩, rfl⟩, ?_⟩
  refine wpSegs_keep ?_
  go_wp2_with fail
  refine (HB.out _).mono ?_
  rintro e w2 ⟨rfl, hf⟩
  have HF2 := Lib.hid (HF.out.trans hf); clear hf
  go_wp2_with fail
  refine ⟨⟨⟨_, (by exact HF2.out)⟩, rfl⟩, ?_⟩
  refine wpSegs_hard ?_
  go_wp2_with fail
  refine (HC.out _).mono ?_
  rintro e w3 ⟨rfl, hf⟩
  have HF3 := Lib.hid (HF2.out.trans hf); clear hf
  go_wp2_with fail
  repeat ((first | refine wpSegs_soft ?_ | refine wpSegs_pure ?_ | refine wpSegs_here ?_); (repeat (first | go_big_quiet_step (fail) | quiet_step (fail))); refine wpQuiet_nil ?_)
  refine wpSegs_done ?_
  go_wp2_with fail
  go_ret
  generalize s + n * m = res
  exact ⟨rfl, (((Fr.refl [] _).alloc _).drew).trans HF3.out⟩
set_option maxHeartbeats 1000000 in
theorem rfrom_14 (w : World) (c : Cfg) (h : Ok c) : Calls Try.prog 81 #[cfgV c, .int .i64 14] w fun e w' => e = .returned (.int .i64 (fLim c)) ∧ Fr [] w w' := by
  have HA := Lib.hid (fun w => rfrom_13 w c h)
  have HB := Lib.hid (fun w => rcount_any w c h 13 (by omega))
  have HC := Lib.hid (fun w => reach_any w c h 13 (by omega))
  have htb : 0 ≤ fStack c ∧ fStack c ≤ 18100 := fromP_bd h 13
  have hpr : 0 ≤ cnt c 13 * each c 13 ∧ cnt c 13 * each c 13 ≤ 520 := by
    have := limit_pos h; have := h.b1; have := h.b64
    have e1 : cnt c 13 = c.b := by simp [cnt]
    have e2 : each c 13 = 1 := by simp [each]
    rw [e1, e2]; omega
  rw [show fLim c = fStack c + cnt c 13 * each c 13 by simp [cnt, each, fLim]]
  rw [show cfgV c = .agg (cfgL c).toArray from rfl] at *
  have hmd := (Blk.new w 24 (cfgL c)).drew
  have hsz : (cfgL c).length = 6 := rfl
  generalize cfgL c = cl at *
  generalize fStack c = s, cnt c 13 = n, each c 13 = m at *
  clear h
  go_enter Try.func81, Try.ntmps81
  go_wp2
  refine wp_region_fr [(1, [0, 1, 2, 4, 5, 6, 8, 9, 10]), (2, [3]), (2, [7]), (3, [11]), (0, [12, 13, 14])] [] (by kernel_rfl) (by kernel_rfl) ?_
  simp only [theOps, nthOp, List.map_cons, List.map_nil, Array.getD_eq_getD_getElem?, List.getElem?_toArray, List.getElem?_cons_succ, List.getElem?_cons_zero, Option.getD_some]
  refine wpSegs_soft ?_
  refine wpQuiet_load_mid 24 _ w.heap.size 0 cl _ rfl rfl rfl (rangeAt_after hmd (by simp)) Try.underlying24 rfl (by rw [hsz]; kernel_rfl) ?_
  simp only [Act.put, List.setIfInBounds_toArray, List.set_cons_zero, List.set_cons_succ]
  iterate 2 (first | go_big_quiet_step (fail) | quiet_step (fail))
  refine wpQuiet_load_mid 24 _ w.heap.size 0 cl _ rfl rfl rfl (rangeAt_after hmd (by simp)) Try.underlying24 rfl (by rw [hsz]; kernel_rfl) ?_
  simp only [Act.put, List.setIfInBounds_toArray, List.set_cons_zero, List.set_cons_succ]
  iterate 2 (first | go_big_quiet_step (fail) | quiet_step (fail))
  refine wpQuiet_load_mid 24 _ w.heap.size 0 cl _ rfl rfl rfl (rangeAt_after hmd (by simp)) Try.underlying24 rfl (by rw [hsz]; kernel_rfl) ?_
  simp only [Act.put, List.setIfInBounds_toArray, List.set_cons_zero, List.set_cons_succ]
  iterate 2 (first | go_big_quiet_step (fail) | quiet_step (fail))
  refine wpQuiet_nil ?_
  refine wpSegs_keep ?_
  go_wp2_with fail
  refine (HA.out _).mono ?_
  rintro e w1 ⟨rfl, hf⟩
  have HF := Lib.hid hf; clear hf
  go_wp2_with fail
  refine ⟨⟨⟨_, (by exact HF.out)⟩, rfl⟩, ?_⟩
  refine wpSegs_keep ?_
  go_wp2_with fail
  refine (HB.out _).mono ?_
  rintro e w2 ⟨rfl, hf⟩
  have HF2 := Lib.hid (HF.out.trans hf); clear hf
  go_wp2_with fail
  refine ⟨⟨⟨_, (by exact HF2.out)⟩, rfl⟩, ?_⟩
  refine wpSegs_hard ?_
  go_wp2_with fail
  refine (HC.out _).mono ?_
  rintro e w3 ⟨rfl, hf⟩
  have HF3 := Lib.hid (HF2.out.trans hf); clear hf
  go_wp2_with fail
  repeat ((first | refine wpSegs_soft ?_ | refine wpSegs_pure ?_ | refine wpSegs_here ?_); (repeat (first | go_big_quiet_step (fail) | quiet_step (fail))); refine wpQuiet_nil ?_)
  refine wpSegs_done ?_
  go_wp2_with fail
  go_ret
  generalize s + n * m = res
  exact ⟨rfl, (((Fr.refl [] _).alloc _).drew).trans HF3.out⟩
set_option maxHeartbeats 1000000 in
theorem rfrom_15 (w : World) (c : Cfg) (h : Ok c) : Calls Try.prog 81 #[cfgV c, .int .i64 15] w fun e w' => e = .returned (.int .i64 (fLimbo c)) ∧ Fr [] w w' := by
  have HA := Lib.hid (fun w => rfrom_14 w c h)
  have HB := Lib.hid (fun w => rcount_any w c h 14 (by omega))
  have HC := Lib.hid (fun w => reach_any w c h 14 (by omega))
  have htb : 0 ≤ fLim c ∧ fLim c ≤ 18100 := fromP_bd h 14
  have hpr : 0 ≤ cnt c 14 * each c 14 ∧ cnt c 14 * each c 14 ≤ 520 := by
    have := limit_pos h; have := h.b1; have := h.b64
    have e1 : cnt c 14 = 1 := by simp [cnt]
    have e2 : each c 14 = 1 := by simp [each]
    rw [e1, e2]; omega
  rw [show fLimbo c = fLim c + cnt c 14 * each c 14 by simp [cnt, each, fLimbo]]
  rw [show cfgV c = .agg (cfgL c).toArray from rfl] at *
  have hmd := (Blk.new w 24 (cfgL c)).drew
  have hsz : (cfgL c).length = 6 := rfl
  generalize cfgL c = cl at *
  generalize fLim c = s, cnt c 14 = n, each c 14 = m at *
  clear h
  go_enter Try.func81, Try.ntmps81
  go_wp2
  refine wp_region_fr [(1, [0, 1, 2, 4, 5, 6, 8, 9, 10]), (2, [3]), (2, [7]), (3, [11]), (0, [12, 13, 14])] [] (by kernel_rfl) (by kernel_rfl) ?_
  simp only [theOps, nthOp, List.map_cons, List.map_nil, Array.getD_eq_getD_getElem?, List.getElem?_toArray, List.getElem?_cons_succ, List.getElem?_cons_zero, Option.getD_some]
  refine wpSegs_soft ?_
  refine wpQuiet_load_mid 24 _ w.heap.size 0 cl _ rfl rfl rfl (rangeAt_after hmd (by simp)) Try.underlying24 rfl (by rw [hsz]; kernel_rfl) ?_
  simp only [Act.put, List.setIfInBounds_toArray, List.set_cons_zero, List.set_cons_succ]
  iterate 2 (first | go_big_quiet_step (fail) | quiet_step (fail))
  refine wpQuiet_load_mid 24 _ w.heap.size 0 cl _ rfl rfl rfl (rangeAt_after hmd (by simp)) Try.underlying24 rfl (by rw [hsz]; kernel_rfl) ?_
  simp only [Act.put, List.setIfInBounds_toArray, List.set_cons_zero, List.set_cons_succ]
  iterate 2 (first | go_big_quiet_step (fail) | quiet_step (fail))
  refine wpQuiet_load_mid 24 _ w.heap.size 0 cl _ rfl rfl rfl (rangeAt_after hmd (by simp)) Try.underlying24 rfl (by rw [hsz]; kernel_rfl) ?_
  simp only [Act.put, List.setIfInBounds_toArray, List.set_cons_zero, List.set_cons_succ]
  iterate 2 (first | go_big_quiet_step (fail) | quiet_step (fail))
  refine wpQuiet_nil ?_
  refine wpSegs_keep ?_
  go_wp2_with fail
  refine (HA.out _).mono ?_
  rintro e w1 ⟨rfl, hf⟩
  have HF := Lib.hid hf; clear hf
  go_wp2_with fail
  refine ⟨⟨⟨_, (by exact HF.out)⟩, rfl⟩, ?_⟩
  refine wpSegs_keep ?_
  go_wp2_with fail
  refine (HB.out _).mono ?_
  rintro e w2 ⟨rfl, hf⟩
  have HF2 := Lib.hid (HF.out.trans hf); clear hf
  go_wp2_with fail
  refine ⟨⟨⟨_, (by exact HF2.out)⟩, rfl⟩, ?_⟩
  refine wpSegs_hard ?_
  go_wp2_with fail
  refine (HC.out _).mono ?_
  rintro e w3 ⟨rfl, hf⟩
  have HF3 := Lib.hid (HF2.out.trans hf); clear hf
  go_wp2_with fail
  repeat ((first | refine wpSegs_soft ?_ | refine wpSegs_pure ?_ | refine wpSegs_here ?_); (repeat (first | go_big_quiet_step (fail) | quiet_step (fail))); refine wpQuiet_nil ?_)
  refine wpSegs_done ?_
  go_wp2_with fail
  go_ret
  generalize s + n * m = res
  exact ⟨rfl, (((Fr.refl [] _).alloc _).drew).trans HF3.out⟩
set_option maxHeartbeats 1000000 in
theorem rfrom_16 (w : World) (c : Cfg) (h : Ok c) : Calls Try.prog 81 #[cfgV c, .int .i64 16] w fun e w' => e = .returned (.int .i64 (fWord c)) ∧ Fr [] w w' := by
  have HA := Lib.hid (fun w => rfrom_15 w c h)
  have HB := Lib.hid (fun w => rcount_any w c h 15 (by omega))
  have HC := Lib.hid (fun w => reach_any w c h 15 (by omega))
  have htb : 0 ≤ fLimbo c ∧ fLimbo c ≤ 18100 := fromP_bd h 15
  have hpr : 0 ≤ cnt c 15 * each c 15 ∧ cnt c 15 * each c 15 ≤ 520 := by
    have := limit_pos h; have := h.b1; have := h.b64
    have e1 : cnt c 15 = limit c := by simp [cnt]
    have e2 : each c 15 = 1 := by simp [each]
    rw [e1, e2]; omega
  rw [show fWord c = fLimbo c + cnt c 15 * each c 15 by simp [cnt, each, fWord]]
  rw [show cfgV c = .agg (cfgL c).toArray from rfl] at *
  have hmd := (Blk.new w 24 (cfgL c)).drew
  have hsz : (cfgL c).length = 6 := rfl
  generalize cfgL c = cl at *
  generalize fLimbo c = s, cnt c 15 = n, each c 15 = m at *
  clear h
  go_enter Try.func81, Try.ntmps81
  go_wp2
  refine wp_region_fr [(1, [0, 1, 2, 4, 5, 6, 8, 9, 10]), (2, [3]), (2, [7]), (3, [11]), (0, [12, 13, 14])] [] (by kernel_rfl) (by kernel_rfl) ?_
  simp only [theOps, nthOp, List.map_cons, List.map_nil, Array.getD_eq_getD_getElem?, List.getElem?_toArray, List.getElem?_cons_succ, List.getElem?_cons_zero, Option.getD_some]
  refine wpSegs_soft ?_
  refine wpQuiet_load_mid 24 _ w.heap.size 0 cl _ rfl rfl rfl (rangeAt_after hmd (by simp)) Try.underlying24 rfl (by rw [hsz]; kernel_rfl) ?_
  simp only [Act.put, List.setIfInBounds_toArray, List.set_cons_zero, List.set_cons_succ]
  iterate 2 (first | go_big_quiet_step (fail) | quiet_step (fail))
  refine wpQuiet_load_mid 24 _ w.heap.size 0 cl _ rfl rfl rfl (rangeAt_after hmd (by simp)) Try.underlying24 rfl (by rw [hsz]; kernel_rfl) ?_
  simp only [Act.put, List.setIfInBounds_toArray, List.set_cons_zero, List.set_cons_succ]
  iterate 2 (first | go_big_quiet_step (fail) | quiet_step (fail))
  refine wpQuiet_load_mid 24 _ w.heap.size 0 cl _ rfl rfl rfl (rangeAt_after hmd (by simp)) Try.underlying24 rfl (by rw [hsz]; kernel_rfl) ?_
  simp only [Act.put, List.setIfInBounds_toArray, List.set_cons_zero, List.set_cons_succ]
  iterate 2 (first | go_big_quiet_step (fail) | quiet_step (fail))
  refine wpQuiet_nil ?_
  refine wpSegs_keep ?_
  go_wp2_with fail
  refine (HA.out _).mono ?_
  rintro e w1 ⟨rfl, hf⟩
  have HF := Lib.hid hf; clear hf
  go_wp2_with fail
  refine ⟨⟨⟨_, (by exact HF.out)⟩, rfl⟩, ?_⟩
  refine wpSegs_keep ?_
  go_wp2_with fail
  refine (HB.out _).mono ?_
  rintro e w2 ⟨rfl, hf⟩
  have HF2 := Lib.hid (HF.out.trans hf); clear hf
  go_wp2_with fail
  refine ⟨⟨⟨_, (by exact HF2.out)⟩, rfl⟩, ?_⟩
  refine wpSegs_hard ?_
  go_wp2_with fail
  refine (HC.out _).mono ?_
  rintro e w3 ⟨rfl, hf⟩
  have HF3 := Lib.hid (HF2.out.trans hf); clear hf
  go_wp2_with fail
  repeat ((first | refine wpSegs_soft ?_ | refine wpSegs_pure ?_ | refine wpSegs_here ?_); (repeat (first | go_big_quiet_step (fail) | quiet_step (fail))); refine wpQuiet_nil ?_)
  refine wpSegs_done ?_
  go_wp2_with fail
  go_ret
  generalize s + n * m = res
  exact ⟨rfl, (((Fr.refl [] _).alloc _).drew).trans HF3.out⟩
set_option maxHeartbeats 1000000 in
theorem rfrom_17 (w : World) (c : Cfg) (h : Ok c) : Calls Try.prog 81 #[cfgV c, .int .i64 17] w fun e w' => e = .returned (.int .i64 (size c)) ∧ Fr [] w w' := by
  have HA := Lib.hid (fun w => rfrom_16 w c h)
  have HB := Lib.hid (fun w => rcount_any w c h 16 (by omega))
  have HC := Lib.hid (fun w => reach_any w c h 16 (by omega))
  have htb : 0 ≤ fWord c ∧ fWord c ≤ 18100 := fromP_bd h 16
  have hpr : 0 ≤ cnt c 16 * each c 16 ∧ cnt c 16 * each c 16 ≤ 520 := by
    have := limit_pos h; have := h.b1; have := h.b64
    have e1 : cnt c 16 = c.b := by simp [cnt]
    have e2 : each c 16 = 8 := by simp [each]
    rw [e1, e2]; omega
  rw [show size c = fWord c + cnt c 16 * each c 16 by simp [cnt, each, size]]
  rw [show cfgV c = .agg (cfgL c).toArray from rfl] at *
  have hmd := (Blk.new w 24 (cfgL c)).drew
  have hsz : (cfgL c).length = 6 := rfl
  generalize cfgL c = cl at *
  generalize fWord c = s, cnt c 16 = n, each c 16 = m at *
  clear h
  go_enter Try.func81, Try.ntmps81
  go_wp2
  refine wp_region_fr [(1, [0, 1, 2, 4, 5, 6, 8, 9, 10]), (2, [3]), (2, [7]), (3, [11]), (0, [12, 13, 14])] [] (by kernel_rfl) (by kernel_rfl) ?_
  simp only [theOps, nthOp, List.map_cons, List.map_nil, Array.getD_eq_getD_getElem?, List.getElem?_toArray, List.getElem?_cons_succ, List.getElem?_cons_zero, Option.getD_some]
  refine wpSegs_soft ?_
  refine wpQuiet_load_mid 24 _ w.heap.size 0 cl _ rfl rfl rfl (rangeAt_after hmd (by simp)) Try.underlying24 rfl (by rw [hsz]; kernel_rfl) ?_
  simp only [Act.put, List.setIfInBounds_toArray, List.set_cons_zero, List.set_cons_succ]
  iterate 2 (first | go_big_quiet_step (fail) | quiet_step (fail))
  refine wpQuiet_load_mid 24 _ w.heap.size 0 cl _ rfl rfl rfl (rangeAt_after hmd (by simp)) Try.underlying24 rfl (by rw [hsz]; kernel_rfl) ?_
  simp only [Act.put, List.setIfInBounds_toArray, List.set_cons_zero, List.set_cons_succ]
  iterate 2 (first | go_big_quiet_step (fail) | quiet_step (fail))
  refine wpQuiet_load_mid 24 _ w.heap.size 0 cl _ rfl rfl rfl (rangeAt_after hmd (by simp)) Try.underlying24 rfl (by rw [hsz]; kernel_rfl) ?_
  simp only [Act.put, List.setIfInBounds_toArray, List.set_cons_zero, List.set_cons_succ]
  iterate 2 (first | go_big_quiet_step (fail) | quiet_step (fail))
  refine wpQuiet_nil ?_
  refine wpSegs_keep ?_
  go_wp2_with fail
  refine (HA.out _).mono ?_
  rintro e w1 ⟨rfl, hf⟩
  have HF := Lib.hid hf; clear hf
  go_wp2_with fail
  refine ⟨⟨⟨_, (by exact HF.out)⟩, rfl⟩, ?_⟩
  refine wpSegs_keep ?_
  go_wp2_with fail
  refine (HB.out _).mono ?_
  rintro e w2 ⟨rfl, hf⟩
  have HF2 := Lib.hid (HF.out.trans hf); clear hf
  go_wp2_with fail
  refine ⟨⟨⟨_, (by exact HF2.out)⟩, rfl⟩, ?_⟩
  refine wpSegs_hard ?_
  go_wp2_with fail
  refine (HC.out _).mono ?_
  rintro e w3 ⟨rfl, hf⟩
  have HF3 := Lib.hid (HF2.out.trans hf); clear hf
  go_wp2_with fail
  repeat ((first | refine wpSegs_soft ?_ | refine wpSegs_pure ?_ | refine wpSegs_here ?_); (repeat (first | go_big_quiet_step (fail) | quiet_step (fail))); refine wpQuiet_nil ?_)
  refine wpSegs_done ?_
  go_wp2_with fail
  go_ret
  generalize s + n * m = res
  exact ⟨rfl, (((Fr.refl [] _).alloc _).drew).trans HF3.out⟩
end Go.Proofs.Ytccioehckfdjdaa
