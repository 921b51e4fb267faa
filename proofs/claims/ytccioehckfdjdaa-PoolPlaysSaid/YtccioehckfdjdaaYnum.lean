/- The walks of Cfg, Limit, Cap, Stride, Size, and of the document's Limit, Cap, Stride. -/
import Derived.Test.YtccioehckfdjdaaYfun
import Derived.Test.YtccioehckfdjdaaMLoad
set_option linter.unusedSimpArgs false
set_option linter.unusedVariables false
namespace Go.Proofs.Ytccioehckfdjdaa
open Go.RowKit Go.Tum Go.Tum.Y

/-- Cells of a map that is of c, whatever it says of where things stand. -/
structure HasCfg (cs : List Value) (c : Cfg) : Prop where
  sz : cs.length = 24
  g0 : cs[0]? = some (.int .i64 c.t)
  g1 : cs[1]? = some (.int .i64 c.b)
  g2 : cs[2]? = some (.int .i64 c.w)
theorem hasCfg (c : Cfg) : HasCfg (mapCells c) c := ⟨rfl, rfl, rfl, rfl⟩
set_option maxHeartbeats 1000000 in
theorem limit_cs (w : World) (c : Cfg) (h : Ok c) (cs : List Value) (hc : HasCfg cs c) : Calls Try.prog 42 #[.agg cs.toArray] w fun e w' => e = .returned (.int .i64 (limit c)) ∧ Fr [] w w' := by
  have hb := limit_bd h
  have h1 := h.w0; have h2 := h.w64
  rw [show limit c = c.t * (c.w + 1) from rfl]
  have hm := Blk.new w 31 cs
  have c0 := (hm.cell 0).trans hc.g0
  have c2 := (hm.cell 2).trans hc.g2
  clear hm hc h
  go_enter Try.func42, Try.ntmps42
  go_wp2
  go_ret
  generalize c.t * (c.w + 1) = res
  exact ⟨rfl, (Fr.refl [] _).alloc _⟩
theorem limit_any (w : World) (c : Cfg) (h : Ok c) : Calls Try.prog 42 #[mapV c] w fun e w' => e = .returned (.int .i64 (limit c)) ∧ Fr [] w w' := limit_cs w c h _ (hasCfg c)
set_option maxHeartbeats 1000000 in
theorem cap_cs (w : World) (c : Cfg) (h : Ok c) (cs : List Value) (hc : HasCfg cs c) : Calls Try.prog 68 #[.agg cs.toArray] w fun e w' => e = .returned (.int .i64 (cap c)) ∧ Fr [] w w' := by
  have hb := t3_bd h
  have hl := limit_pos h
  have h1 := h.w0; have h2 := h.w64
  have HL := Lib.hid (fun w => limit_cs w c h cs hc)
  rw [show cap c = c.t * (c.w + 3) + 3 * limit c + 2 from rfl]
  generalize limit c = q at *
  have hm := Blk.new w 31 cs
  have c0 := (hm.cell 0).trans hc.g0
  have c2 := (hm.cell 2).trans hc.g2
  have hsz := hc.sz
  have HM := Lib.hid hm.drew
  clear hm hc h
  go_enter Try.func68, Try.ntmps68
  go_wp2
  refine wp_region_fr [(1, [0, 1, 2, 3, 4, 5, 6, 7, 8]), (2, [9]), (0, [10, 11, 12, 13])] [] (by kernel_rfl) (by kernel_rfl) ?_
  simp only [theOps, nthOp, List.map_cons, List.map_nil, Array.getD_eq_getD_getElem?, List.getElem?_toArray, List.getElem?_cons_succ, List.getElem?_cons_zero, Option.getD_some]
  refine wpSegs_soft ?_
  iterate 8 (first | go_big_quiet_step (fail) | quiet_step (fail))
  refine wpQuiet_load_mid 31 _ w.heap.size 0 cs _ rfl rfl rfl (rangeAt_after HM.out (by simp)) Try.underlying31 rfl (by rw [hsz]; kernel_rfl) ?_
  simp only [Act.put, List.setIfInBounds_toArray, List.set_cons_zero, List.set_cons_succ]
  refine wpQuiet_nil ?_
  refine wpSegs_keep ?_
  go_wp2_with fail
  refine (HL.out _).mono ?_
  rintro e w1 ⟨rfl, hf⟩
  have HF := Lib.hid hf; clear hf
  go_wp2_with fail
  refine ⟨⟨⟨_, (by exact HF.out)⟩, rfl⟩, ?_⟩
  repeat ((first | refine wpSegs_soft ?_ | refine wpSegs_pure ?_ | refine wpSegs_here ?_); (repeat (first | go_big_quiet_step (fail) | quiet_step (fail))); refine wpQuiet_nil ?_)
  refine wpSegs_done ?_
  go_wp2_with fail
  go_ret
  generalize c.t * (c.w + 3) + 3 * q + 2 = res
  exact ⟨rfl, (((Fr.refl [] _).alloc _).drew).trans HF.out⟩
theorem cap_any (w : World) (c : Cfg) (h : Ok c) : Calls Try.prog 68 #[mapV c] w fun e w' => e = .returned (.int .i64 (cap c)) ∧ Fr [] w w' := cap_cs w c h _ (hasCfg c)
set_option maxHeartbeats 1000000 in
theorem stride_cs (w : World) (c : Cfg) (h : Ok c) (cs : List Value) (hc : HasCfg cs c) : Calls Try.prog 101 #[.agg cs.toArray] w fun e w' => e = .returned (.int .i64 (stride c)) ∧ Fr [] w w' := by
  have hl := cap_bd h
  have HL := Lib.hid (fun w => cap_cs w c h cs hc)
  rw [show stride c = 8 + cap c from rfl]
  generalize cap c = q at *
  have HM := Lib.hid (Blk.new w 31 cs)
  have hsz := hc.sz
  clear hc h
  go_enter Try.func101, Try.ntmps101
  go_wp2_with (refine wpList_load_any 31 _ rfl rfl _ 0 rfl cs _ HM.out.range Try.underlying31 rfl (by rw [hsz]; kernel_rfl) ?_)
  refine (HL.out _).mono ?_
  rintro e w1 ⟨rfl, hf⟩
  have HF := Lib.hid hf; clear hf
  go_wp2_with fail
  go_ret
  generalize 8 + q = res
  exact ⟨rfl, ((Fr.refl [] _).alloc _).trans HF.out⟩
theorem stride_any (w : World) (c : Cfg) (h : Ok c) : Calls Try.prog 101 #[mapV c] w fun e w' => e = .returned (.int .i64 (stride c)) ∧ Fr [] w w' := stride_cs w c h _ (hasCfg c)

/-! ### the document's -/
theorem limit_eq (c : Cfg) : c.t * c.w + c.t = limit c := by unfold limit; rw [Int.mul_add, Int.mul_one]
set_option maxHeartbeats 1000000 in
theorem rlimit_any (w : World) (c : Cfg) (h : Ok c) : Calls Try.prog 31 #[cfgV c] w fun e w' => e = .returned (.int .i64 (limit c)) ∧ Fr [] w w' := by
  have he := limit_eq c
  have hb := limit_pos h
  have h1 := h.t1; have h2 := h.t8
  have hp : 0 ≤ c.t * c.w ∧ c.t * c.w ≤ 520 := by
    have := mul_bd (x := c.t) (y := c.w) (a := 8) (b := 64) (by omega) h.w0 h2 h.w64
    omega
  rw [← he]
  clear he
  unfold cfgV
  go_enter Try.func31, Try.ntmps31
  go_wp2
  go_ret
  exact ⟨rfl, (Fr.refl [] _).alloc _⟩
set_option maxHeartbeats 1000000 in
theorem rcap_any (w : World) (c : Cfg) (h : Ok c) : Calls Try.prog 80 #[cfgV c] w fun e w' => e = .returned (.int .i64 (cap c)) ∧ Fr [] w w' := by
  have hb := t3_bd h
  have hl := limit_pos h
  have h1 := h.w0; have h2 := h.w64
  rw [show cap c = c.t * (c.w + 3) + 3 * limit c + 2 from rfl]
  generalize hq : limit c = q at *
  have HQ := Lib.hid hq; clear hq
  unfold cfgV
  go_enter Try.func80, Try.ntmps80
  go_wp2
  refine wp_region_fr [(1, [0, 1, 2, 3, 4, 5, 6]), (2, [7]), (0, [8, 9, 10, 11])] [] (by kernel_rfl) (by kernel_rfl) ?_
  simp only [theOps, nthOp, List.map_cons, List.map_nil, Array.getD_eq_getD_getElem?, List.getElem?_toArray, List.getElem?_cons_succ, List.getElem?_cons_zero, Option.getD_some]
  repeat ((first | refine wpSegs_soft ?_ | refine wpSegs_pure ?_ | refine wpSegs_here ?_); (repeat (first | go_big_quiet_step (fail) | quiet_step (fail))); refine wpQuiet_nil ?_)
  refine wpSegs_keep ?_
  go_wp2_with fail
  refine (rlimit_any _ c h).mono ?_
  rintro e w1 ⟨rfl, hf⟩
  rw [HQ.out]
  have HF := Lib.hid hf; clear hf
  go_wp2_with fail
  refine ⟨⟨⟨_, (by exact HF.out)⟩, rfl⟩, ?_⟩
  repeat ((first | refine wpSegs_soft ?_ | refine wpSegs_pure ?_ | refine wpSegs_here ?_); (repeat (first | go_big_quiet_step (fail) | quiet_step (fail))); refine wpQuiet_nil ?_)
  refine wpSegs_done ?_
  go_wp2_with fail
  go_ret
  generalize c.t * (c.w + 3) + 3 * q + 2 = res
  exact ⟨rfl, (((Fr.refl [] _).alloc _).drew).trans HF.out⟩
set_option maxHeartbeats 1000000 in
theorem rstride_any (w : World) (c : Cfg) (h : Ok c) : Calls Try.prog 130 #[cfgV c] w fun e w' => e = .returned (.int .i64 (stride c)) ∧ Fr [] w w' := by
  have hl := cap_bd h
  rw [show stride c = cap c + 8 from Int.add_comm _ _]
  generalize hq : cap c = q at *
  have HQ := Lib.hid hq; clear hq
  unfold cfgV
  go_enter Try.func130, Try.ntmps130
  go_wp2_with fail
  refine (rcap_any _ c h).mono ?_
  rintro e w1 ⟨rfl, hf⟩
  rw [HQ.out]
  have HF := Lib.hid hf; clear hf
  go_wp2_with fail
  go_ret
  generalize q + 8 = res
  exact ⟨rfl, ((Fr.refl [] _).alloc _).trans HF.out⟩
end Go.Proofs.Ytccioehckfdjdaa
