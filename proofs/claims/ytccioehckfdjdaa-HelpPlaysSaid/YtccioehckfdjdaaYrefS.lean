/- The walk of the document's Size. -/
import Derived.Test.YtccioehckfdjdaaYref
set_option linter.unusedSimpArgs false
set_option linter.unusedVariables false
namespace Go.Proofs.Ytccioehckfdjdaa
open Go.RowKit Go.Tum Go.Tum.Y
set_option maxHeartbeats 1000000 in
theorem rsize_any (w : World) (c : Cfg) (h : Ok c) : Calls Try.prog 82 #[cfgV c] w fun e w' => e = .returned (.int .i64 (size c)) ∧ Fr [] w w' := by
  have HA := Lib.hid (fun w => rfrom_17 w c h)
  rw [show cfgV c = .agg (cfgL c).toArray from rfl] at *
  have hm := Blk.new w 24 (cfgL c)
  have hsz : (cfgL c).length = 6 := rfl
  have g0 : (cfgL c)[0]? = some (.int .i64 c.t) := rfl
  have g1 : (cfgL c)[1]? = some (.int .i64 c.b) := rfl
  have c0 := (hm.cell 0).trans g0
  have c1 := (hm.cell 1).trans g1
  have HM := Lib.hid hm
  clear hm
  generalize cfgL c = cl at *
  generalize size c = s at *
  clear h
  go_enter Try.func82, Try.ntmps82
  go_wp2_with (refine wpList_load_any 24 _ rfl rfl _ 0 rfl cl _ HM.out.range Try.underlying24 rfl (by rw [hsz]; kernel_rfl) ?_)
  refine (HA.out _).mono ?_
  rintro e w1 ⟨rfl, hf⟩
  have HF := Lib.hid hf; clear hf
  go_wp2_with fail
  go_ret
  exact ⟨rfl, ((Fr.refl [] _).alloc _).trans HF.out⟩
end Go.Proofs.Ytccioehckfdjdaa
