/- The walk of Of: the map of how great everything is. -/
import Derived.Test.YtccioehckfdjdaaYat
set_option linter.unusedSimpArgs false
set_option linter.unusedVariables false
namespace Go.Tum.Y
def cfgL (c : Cfg) : List Value := [.int .i64 c.t, .int .i64 c.b, .int .i64 c.w, .int .i64 c.f, .int .u64 c.fi, .int .u64 c.la]
def zeroMap : List Value := [.int .i64 0, .int .i64 0, .int .i64 0, .int .i64 0, .int .u64 0, .int .u64 0, .int .i64 0, .int .i64 0, .int .i64 0, .int .i64 0, .int .i64 0, .int .i64 0, .int .i64 0, .int .i64 0, .int .i64 0, .int .i64 0, .int .i64 0, .int .i64 0, .int .i64 0, .int .i64 0, .int .i64 0, .int .i64 0, .int .i64 0, .int .i64 0]
def baseMap (c : Cfg) : List Value := [.int .i64 c.t, .int .i64 c.b, .int .i64 c.w, .int .i64 c.f, .int .u64 c.fi, .int .u64 c.la, .int .i64 0, .int .i64 0, .int .i64 0, .int .i64 0, .int .i64 0, .int .i64 0, .int .i64 0, .int .i64 0, .int .i64 0, .int .i64 0, .int .i64 0, .int .i64 0, .int .i64 0, .int .i64 0, .int .i64 0, .int .i64 0, .int .i64 0, .int .i64 0]
theorem hasCfg_base (c : Cfg) : (baseMap c).length = 24 ∧ (baseMap c)[0]? = some (.int .i64 c.t) ∧ (baseMap c)[1]? = some (.int .i64 c.b) ∧ (baseMap c)[2]? = some (.int .i64 c.w) := ⟨rfl, rfl, rfl, rfl⟩
def zeroV : Value := .agg zeroMap.toArray
end Go.Tum.Y
namespace Go.Proofs.Ytccioehckfdjdaa
open Go.RowKit Go.Tum Go.Tum.Y

set_option maxHeartbeats 1000000 in
theorem of_bad (w : World) (c : Cfg) (h : ¬ Ok c) : Calls Try.prog 25 #[cfgV c] w fun e w' => e = .returned (.tuple #[zeroV, .int .i64 1]) ∧ Fr [] w w' := by
  have HR := Lib.hid (fun w => right_any w c)
  rw [show right c = false by unfold right; simpa using h] at HR
  unfold cfgV at *
  have hS := ((Sep.nil (Fr.refl [] w)).new 24 (cfgL c)).new 31 zeroMap
  simp only [World.size_alloc] at hS
  have HS := Lib.hid hS; clear hS
  go_enter Try.func25, Try.ntmps25
  go_wp2_with fail
  refine (HR.out _).mono ?_
  rintro e w1 ⟨rfl, hf⟩
  have hS := HS.out.fr0 hf
  have hb1 := hS.blk 0 rfl
  have hb0 := hS.blk 1 rfl
  have hsz : zeroMap.length = 24 := rfl
  have hone : ∀ v ∈ zeroMap, v.oneCell' = true := by simp [zeroMap]; decide
  have HS2 := Lib.hid (hS.setAll 0 rfl zeroMap rfl)
  have HB1 := Lib.hid hb1; have HB0 := Lib.hid hb0
  clear hS hb1 hb0 HS hf
  go_wp2_with (refine wpList_store_mid rfl 31 _ _ rfl (w.heap.size + 1) 0 (zeroMap).toArray rfl rfl (HB1.out.there _ rfl) (by rw [List.size_toArray, hsz]; kernel_rfl) (all_oneCell_toArray hone) ?_)
  exact bodyPost_ret (v := .tuple #[zeroV, .int .i64 1]) (res_cell_tmp Try.results25 rfl rfl (HS2.out.blk 0 rfl).range Try.underlying31 rfl (by kernel_rfl)) rfl ⟨rfl, HS2.out.fr⟩

theorem bounds_of {c : Cfg} (h : Ok c) : (14 ≤ fTag c ∧ fTag c ≤ 18100) ∧ (14 ≤ fRoot c ∧ fRoot c ≤ 18100) ∧ (14 ≤ fLife c ∧ fLife c ≤ 18100) ∧ (14 ≤ fTop c ∧ fTop c ≤ 18100) ∧ (14 ≤ fStack c ∧ fStack c ≤ 18100) ∧ (14 ≤ fLim c ∧ fLim c ≤ 18100) ∧ (14 ≤ fLimbo c ∧ fLimbo c ≤ 18100) ∧ (14 ≤ fWord c ∧ fWord c ≤ 18100) := by
  have h1 := bds h; have h2 := limit_pos h; have := h.t1; have := h.t8; have := h.b1; have := h.b64
  have := h1.tag; have := h1.root; have := h1.life; have := h1.top; have := h1.stack; have := h1.lim; have := h1.limbo; have := h1.word; have := h1.size_; have := size_bd h
  omega
set_option maxHeartbeats 4000000 in
theorem of_good (w : World) (c : Cfg) (h : Ok c) : Calls Try.prog 25 #[cfgV c] w fun e w' => e = .returned (.tuple #[mapV c, .int .i64 0]) ∧ Fr [] w w' := by
  have HR := Lib.hid (fun w => right_any w c)
  rw [show right c = true by unfold right; simpa using h] at HR
  have HST := Lib.hid (fun w => stride_cs w c h (baseMap c) ⟨rfl, rfl, rfl, rfl⟩)
  have HLI := Lib.hid (fun w => limit_cs w c h (baseMap c) ⟨rfl, rfl, rfl, rfl⟩)
  have hsb := stride_bd h
  have htb := ts_bd h
  have ht1 := h.t1; have ht8 := h.t8; have hb1 := h.b1; have hb64 := h.b64
  have hlb := limit_pos h
  obtain ⟨g0, g1, g2, g3, g4, g5, g6, g7⟩ := bounds_of h
  unfold cfgV at *
  have hS := ((Sep.nil (Fr.refl [] w)).new 24 (cfgL c)).new 31 zeroMap
  simp only [World.size_alloc] at hS
  have HS := Lib.hid hS; clear hS
  go_enter Try.func25, Try.ntmps25
  go_wp2_with fail
  refine (HR.out _).mono ?_
  rintro e w1 ⟨rfl, hf⟩
  have hS := HS.out.fr0 hf
  clear hf HS HR
  have a0 := (hS.blk 1 rfl).cell 0
  have a1 := (hS.blk 1 rfl).cell 1
  have a2 := (hS.blk 1 rfl).cell 2
  have a3 := (hS.blk 1 rfl).cell 3
  have a4 := (hS.blk 1 rfl).cell 4
  have a5 := (hS.blk 1 rfl).cell 5
  simp only [cfgL, List.getElem?_cons_zero, List.getElem?_cons_succ] at a0 a1 a2 a3 a4 a5
  have hsz : (baseMap c).length = 24 := rfl
  have hone : ∀ v ∈ baseMap c, v.oneCell' = true := by simp [baseMap]; exact ⟨rfl, rfl, rfl, rfl, rfl, rfl, rfl⟩
  have hS := hS.new 31 zeroMap
  have HB := Lib.hid (hS.blk 0 rfl)
  have HS := Lib.hid (hS.setAll 0 rfl (baseMap c) rfl)
  clear hS
  go_wp2_with (refine wpList_store_mid rfl 31 _ _ rfl w1.heap.size 0 ((baseMap c)).toArray rfl rfl (HB.out.there _ rfl) (by rw [List.size_toArray, hsz]; kernel_rfl) (all_oneCell_toArray hone) ?_)
  have HS1 : Hid (Sep w ((w1.alloc (.cells #[.int .i64 0, .int .i64 0, .int .i64 0, .int .i64 0, .int .u64 0, .int .u64 0, .int .i64 0, .int .i64 0, .int .i64 0, .int .i64 0, .int .i64 0, .int .i64 0, .int .i64 0, .int .i64 0, .int .i64 0, .int .i64 0, .int .i64 0, .int .i64 0, .int .i64 0, .int .i64 0, .int .i64 0, .int .i64 0, .int .i64 0, .int .i64 0] 31)).setCells w1.heap.size 0 (baseMap c)) [blkT w1.heap.size 31 (baseMap c), blkT (w.heap.size + 1) 31 zeroMap, blkT w.heap.size 24 (cfgL c)]) := HS
  generalize (w1.alloc (.cells #[.int .i64 0, .int .i64 0, .int .i64 0, .int .i64 0, .int .u64 0, .int .u64 0, .int .i64 0, .int .i64 0, .int .i64 0, .int .i64 0, .int .i64 0, .int .i64 0, .int .i64 0, .int .i64 0, .int .i64 0, .int .i64 0, .int .i64 0, .int .i64 0, .int .i64 0, .int .i64 0, .int .i64 0, .int .i64 0, .int .i64 0, .int .i64 0] 31)).setCells w1.heap.size 0 (baseMap c) = w2 at *
  generalize w1.heap.size = q at *
  clear HS HB hone a0 a1 a2 a3 a4 a5
  have hS := HS1.out
  have a0 := (hS.blk 2 rfl).cell 0
  have a1 := (hS.blk 2 rfl).cell 1
  have a2 := (hS.blk 2 rfl).cell 2
  have a3 := (hS.blk 2 rfl).cell 3
  have a4 := (hS.blk 2 rfl).cell 4
  have a5 := (hS.blk 2 rfl).cell 5
  simp only [cfgL, List.getElem?_cons_zero, List.getElem?_cons_succ] at a0 a1 a2 a3 a4 a5
  have hmd := (hS.blk 0 rfl).drew
  have HS := Lib.hid hS
  clear HS1 hS
  refine wp_region_fr [(1, [0, 1, 2]), (2, [3]), (0, [4, 5, 6])] [] (by kernel_rfl) (by kernel_rfl) ?_
  simp only [theOps, nthOp, List.map_cons, List.map_nil, Array.getD_eq_getD_getElem?, List.getElem?_toArray, List.getElem?_cons_succ, List.getElem?_cons_zero, Option.getD_some]
  refine wpSegs_soft ?_
  iterate 2 (first | go_big_quiet_step (fail) | quiet_step (fail))
  refine wpQuiet_load_mid 31 _ q 0 (baseMap c) _ rfl rfl rfl (rangeAt_after hmd (by simp)) Try.underlying31 rfl (by rw [hsz]; kernel_rfl) ?_
  simp only [Act.put, List.setIfInBounds_toArray, List.set_cons_zero, List.set_cons_succ]
  refine wpQuiet_nil ?_
  refine wpSegs_keep ?_
  go_wp2_with fail
  refine (HST.out _).mono ?_
  rintro e w3 ⟨rfl, hf⟩
  have HF := Lib.hid hf; clear hf
  go_wp2_with fail
  refine ⟨⟨⟨_, (by exact HF.out)⟩, rfl⟩, ?_⟩
  repeat ((first | refine wpSegs_soft ?_ | refine wpSegs_pure ?_ | refine wpSegs_here ?_); (repeat (first | go_big_quiet_step (fail) | quiet_step (fail))); refine wpQuiet_nil ?_)
  refine wpSegs_done ?_
  rw [show 1 + c.t * stride c = fTag c from rfl]
  have hS := HS.out.drew.fr0 HF.out
  clear HS HF a0 a1 a2 a3 a4 a5 hmd HST
  have a0 := (hS.blk 2 rfl).cell 0
  have a1 := (hS.blk 2 rfl).cell 1
  have a2 := (hS.blk 2 rfl).cell 2
  have a3 := (hS.blk 2 rfl).cell 3
  have a4 := (hS.blk 2 rfl).cell 4
  have a5 := (hS.blk 2 rfl).cell 5
  simp only [cfgL, List.getElem?_cons_zero, List.getElem?_cons_succ] at a0 a1 a2 a3 a4 a5
  have hmd := (hS.blk 0 rfl).drew
  have HS := Lib.hid hS.drew
  clear hS
  have hT3 : 3 ≤ c.t * 3 ∧ c.t * 3 ≤ 24 := by omega
  have hb8 : 8 ≤ c.b * 8 ∧ c.b * 8 ≤ 512 := by omega
  go_wp2_with fail
  refine wp_region_fr [(1, [0, 1, 2, 3, 4, 5, 6, 7, 8, 9, 10, 11, 12, 13, 16, 17, 18, 19]), (0, [22]), (2, [14]), (0, [15]), (3, [20]), (0, [21])] [] (by kernel_rfl) (by kernel_rfl) ?_
  simp only [theOps, nthOp, List.map_cons, List.map_nil, Array.getD_eq_getD_getElem?, List.getElem?_toArray, List.getElem?_cons_succ, List.getElem?_cons_zero, Option.getD_some]
  refine wpSegs_soft ?_
  iterate 13 (first | go_big_quiet_step (fail) | quiet_step (fail))
  refine wpQuiet_load_mid 31 _ q 0 (baseMap c) _ rfl rfl rfl (rangeAt_after hmd (by simp)) Try.underlying31 rfl (by rw [hsz]; kernel_rfl) ?_
  simp only [Act.put, List.setIfInBounds_toArray, List.set_cons_zero, List.set_cons_succ]
  repeat (first | go_big_quiet_step (fail) | quiet_step (fail))
  refine wpQuiet_nil ?_
  repeat ((first | refine wpSegs_soft ?_ | refine wpSegs_pure ?_ | refine wpSegs_here ?_); (repeat (first | go_big_quiet_step (fail) | quiet_step (fail))); refine wpQuiet_nil ?_)
  refine wpSegs_keep ?_
  go_wp2_with fail
  refine (HLI.out _).mono ?_
  rintro e w4 ⟨rfl, hf⟩
  have HF := Lib.hid hf; clear hf
  go_wp2_with fail
  refine ⟨⟨⟨_, (by exact HF.out)⟩, rfl⟩, ?_⟩
  repeat ((first | refine wpSegs_soft ?_ | refine wpSegs_pure ?_ | refine wpSegs_here ?_); (repeat (first | go_big_quiet_step (fail) | quiet_step (fail))); refine wpQuiet_nil ?_)
  refine wpSegs_hard ?_
  go_wp2_with fail
  repeat ((first | refine wpSegs_soft ?_ | refine wpSegs_pure ?_ | refine wpSegs_here ?_); (repeat (first | go_big_quiet_step (fail) | quiet_step (fail))); refine wpQuiet_nil ?_)
  refine wpSegs_done ?_
  have hS := (HS.out.fr0 HF.out).new 158 [.int .i64 7, .int .i64 (c.t * 3), .int .i64 10, .int .i64 16, .int .i64 11, .int .i64 c.b, .int .i64 12, .int .i64 1, .int .i64 13, .int .i64 c.b, .int .i64 14, .int .i64 1, .int .i64 15, .int .i64 (limit c), .int .i64 16, .int .i64 (c.b * 8)]
  clear HS HF a0 a1 a2 a3 a4 a5 hmd HLI
  generalize w4.alloc (.cells #[.int .i64 7, .int .i64 (c.t * 3), .int .i64 10, .int .i64 16, .int .i64 11, .int .i64 c.b, .int .i64 12, .int .i64 1, .int .i64 13, .int .i64 c.b, .int .i64 14, .int .i64 1, .int .i64 15, .int .i64 (limit c), .int .i64 16, .int .i64 (c.b * 8)] 158) = w5 at *
  generalize w4.heap.size = p at *
  have HS := Lib.hid hS
  clear hS
  go_wp2_with fail
  refine wp_loop_rounds 9 ?_
  rw [rounds_succ]
  have s0 := (HS.out.blk 0 rfl).cell 0
  have s1 := (HS.out.blk 0 rfl).cell 1
  simp only [List.getElem?_cons_zero, List.getElem?_cons_succ] at s0 s1
  have m0 : w5.cell? ⟨q, 13, none⟩ = some (.int .i64 0) := (HS.out.blk 1 rfl).cell 13
  have f0 := (HS.out.blk 1 rfl).froz 13
  have lm := (HS.out.blk 1 rfl).lt
  have hS := ((HS.out.set 1 rfl 13 (.int .i64 (fTag c))).new 158 [.int .i64 7, .int .i64 (c.t * 3)]).tail
  clear HS
  go_wp2_with fail
  rw [show fTag c + c.t * 3 = fRoot c from rfl]
  clear s0 s1 m0 f0 lm
  generalize (w5.setCell ⟨q, 13, none⟩ (.int .i64 (fTag c))).alloc (.cells #[.int .i64 7, .int .i64 (c.t * 3)] 158) = w6 at *
  have HS := Lib.hid hS
  clear hS
  rw [rounds_succ]
  have s0 := (HS.out.blk 0 rfl).cell 2
  have s1 := (HS.out.blk 0 rfl).cell 3
  simp only [List.getElem?_cons_zero, List.getElem?_cons_succ] at s0 s1
  have m0 : w6.cell? ⟨q, 16, none⟩ = some (.int .i64 0) := (HS.out.blk 1 rfl).cell 16
  have f0 := (HS.out.blk 1 rfl).froz 16
  have lm := (HS.out.blk 1 rfl).lt
  have hS := ((HS.out.set 1 rfl 16 (.int .i64 (fRoot c))).new 158 [.int .i64 10, .int .i64 (16)]).tail
  clear HS
  go_wp2_with fail
  rw [show fRoot c + 16 = fLife c from rfl]
  clear s0 s1 m0 f0 lm
  generalize (w6.setCell ⟨q, 16, none⟩ (.int .i64 (fRoot c))).alloc (.cells #[.int .i64 10, .int .i64 (16)] 158) = w7 at *
  have HS := Lib.hid hS
  clear hS
  rw [rounds_succ]
  have s0 := (HS.out.blk 0 rfl).cell 4
  have s1 := (HS.out.blk 0 rfl).cell 5
  simp only [List.getElem?_cons_zero, List.getElem?_cons_succ] at s0 s1
  have m0 : w7.cell? ⟨q, 17, none⟩ = some (.int .i64 0) := (HS.out.blk 1 rfl).cell 17
  have f0 := (HS.out.blk 1 rfl).froz 17
  have lm := (HS.out.blk 1 rfl).lt
  have hS := ((HS.out.set 1 rfl 17 (.int .i64 (fLife c))).new 158 [.int .i64 11, .int .i64 (c.b)]).tail
  clear HS
  go_wp2_with fail
  rw [show fLife c + c.b = fTop c from rfl]
  clear s0 s1 m0 f0 lm
  generalize (w7.setCell ⟨q, 17, none⟩ (.int .i64 (fLife c))).alloc (.cells #[.int .i64 11, .int .i64 (c.b)] 158) = w8 at *
  have HS := Lib.hid hS
  clear hS
  rw [rounds_succ]
  have s0 := (HS.out.blk 0 rfl).cell 6
  have s1 := (HS.out.blk 0 rfl).cell 7
  simp only [List.getElem?_cons_zero, List.getElem?_cons_succ] at s0 s1
  have m0 : w8.cell? ⟨q, 18, none⟩ = some (.int .i64 0) := (HS.out.blk 1 rfl).cell 18
  have f0 := (HS.out.blk 1 rfl).froz 18
  have lm := (HS.out.blk 1 rfl).lt
  have hS := ((HS.out.set 1 rfl 18 (.int .i64 (fTop c))).new 158 [.int .i64 12, .int .i64 (1)]).tail
  clear HS
  go_wp2_with fail
  rw [show fTop c + 1 = fStack c from rfl]
  clear s0 s1 m0 f0 lm
  generalize (w8.setCell ⟨q, 18, none⟩ (.int .i64 (fTop c))).alloc (.cells #[.int .i64 12, .int .i64 (1)] 158) = w9 at *
  have HS := Lib.hid hS
  clear hS
  rw [rounds_succ]
  have s0 := (HS.out.blk 0 rfl).cell 8
  have s1 := (HS.out.blk 0 rfl).cell 9
  simp only [List.getElem?_cons_zero, List.getElem?_cons_succ] at s0 s1
  have m0 : w9.cell? ⟨q, 19, none⟩ = some (.int .i64 0) := (HS.out.blk 1 rfl).cell 19
  have f0 := (HS.out.blk 1 rfl).froz 19
  have lm := (HS.out.blk 1 rfl).lt
  have hS := ((HS.out.set 1 rfl 19 (.int .i64 (fStack c))).new 158 [.int .i64 13, .int .i64 (c.b)]).tail
  clear HS
  go_wp2_with fail
  rw [show fStack c + c.b = fLim c from rfl]
  clear s0 s1 m0 f0 lm
  generalize (w9.setCell ⟨q, 19, none⟩ (.int .i64 (fStack c))).alloc (.cells #[.int .i64 13, .int .i64 (c.b)] 158) = w10 at *
  have HS := Lib.hid hS
  clear hS
  rw [rounds_succ]
  have s0 := (HS.out.blk 0 rfl).cell 10
  have s1 := (HS.out.blk 0 rfl).cell 11
  simp only [List.getElem?_cons_zero, List.getElem?_cons_succ] at s0 s1
  have m0 : w10.cell? ⟨q, 20, none⟩ = some (.int .i64 0) := (HS.out.blk 1 rfl).cell 20
  have f0 := (HS.out.blk 1 rfl).froz 20
  have lm := (HS.out.blk 1 rfl).lt
  have hS := ((HS.out.set 1 rfl 20 (.int .i64 (fLim c))).new 158 [.int .i64 14, .int .i64 (1)]).tail
  clear HS
  go_wp2_with fail
  rw [show fLim c + 1 = fLimbo c from rfl]
  clear s0 s1 m0 f0 lm
  generalize (w10.setCell ⟨q, 20, none⟩ (.int .i64 (fLim c))).alloc (.cells #[.int .i64 14, .int .i64 (1)] 158) = w11 at *
  have HS := Lib.hid hS
  clear hS
  rw [rounds_succ]
  have s0 := (HS.out.blk 0 rfl).cell 12
  have s1 := (HS.out.blk 0 rfl).cell 13
  simp only [List.getElem?_cons_zero, List.getElem?_cons_succ] at s0 s1
  have m0 : w11.cell? ⟨q, 21, none⟩ = some (.int .i64 0) := (HS.out.blk 1 rfl).cell 21
  have f0 := (HS.out.blk 1 rfl).froz 21
  have lm := (HS.out.blk 1 rfl).lt
  have hS := ((HS.out.set 1 rfl 21 (.int .i64 (fLimbo c))).new 158 [.int .i64 15, .int .i64 (limit c)]).tail
  clear HS
  go_wp2_with fail
  rw [show fLimbo c + limit c = fWord c from rfl]
  clear s0 s1 m0 f0 lm
  generalize (w11.setCell ⟨q, 21, none⟩ (.int .i64 (fLimbo c))).alloc (.cells #[.int .i64 15, .int .i64 (limit c)] 158) = w12 at *
  have HS := Lib.hid hS
  clear hS
  rw [rounds_succ]
  have s0 := (HS.out.blk 0 rfl).cell 14
  have s1 := (HS.out.blk 0 rfl).cell 15
  simp only [List.getElem?_cons_zero, List.getElem?_cons_succ] at s0 s1
  have m0 : w12.cell? ⟨q, 22, none⟩ = some (.int .i64 0) := (HS.out.blk 1 rfl).cell 22
  have f0 := (HS.out.blk 1 rfl).froz 22
  have lm := (HS.out.blk 1 rfl).lt
  have hS := ((HS.out.set 1 rfl 22 (.int .i64 (fWord c))).new 158 [.int .i64 16, .int .i64 (c.b * 8)]).tail
  clear HS
  go_wp2_with fail
  rw [show fWord c + c.b * 8 = size c from rfl]
  clear s0 s1 m0 f0 lm
  generalize (w12.setCell ⟨q, 22, none⟩ (.int .i64 (fWord c))).alloc (.cells #[.int .i64 16, .int .i64 (c.b * 8)] 158) = w13 at *
  have HS := Lib.hid hS
  clear hS
  rw [rounds_succ]
  have m0 : w13.cell? ⟨q, 23, none⟩ = some (.int .i64 0) := (HS.out.blk 1 rfl).cell 23
  have f0 := (HS.out.blk 1 rfl).froz 23
  have lm := (HS.out.blk 1 rfl).lt
  have hS := HS.out.set 1 rfl 23 (.int .i64 (size c))
  have HM : Hid (Blk (w13.setCell ⟨q, 23, none⟩ (.int .i64 (size c))) q 31 (mapCells c)) := hS.blk 1 rfl
  have HB := Lib.hid (hS.blk 2 rfl)
  have HS2 := Lib.hid (hS.setAll 2 rfl (mapCells c) rfl)
  have hsm : (mapCells c).length = 24 := rfl
  have hone : ∀ v ∈ mapCells c, v.oneCell' = true := by simp [mapCells, Value.oneCell']
  clear hS HS
  go_wp2_with (first | (refine wpList_load_mid rfl 31 _ rfl _ 0 rfl (mapCells c) _ HM.out.range Try.underlying31 rfl (by rw [hsm]; kernel_rfl) ?_) | (refine wpList_store_mid rfl 31 _ _ rfl (w.heap.size + 1) 0 (mapCells c).toArray rfl rfl (HB.out.there _ rfl) (by rw [List.size_toArray, hsm]; kernel_rfl) (all_oneCell_toArray hone) ?_))
  exact bodyPost_ret (v := .tuple #[mapV c, .int .i64 0]) (res_cell_tmp Try.results25 rfl rfl (HS2.out.blk 2 rfl).range Try.underlying31 rfl (by rw [hsm]; kernel_rfl)) rfl ⟨rfl, HS2.out.fr⟩
theorem of_any (w : World) (c : Cfg) : Calls Try.prog 25 #[cfgV c] w fun e w' => e = .returned (.tuple #[if Ok c then mapV c else zeroV, .int .i64 (if Ok c then 0 else 1)]) ∧ Fr [] w w' := by
  by_cases h : Ok c
  · rw [if_pos h, if_pos h]; exact of_good w c h
  · rw [if_neg h, if_neg h]; exact of_bad w c h
end Go.Proofs.Ytccioehckfdjdaa
