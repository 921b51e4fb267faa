/- The walk of pool's release: over a set, and the state's block. -/
import Derived.Test.YtccioehckfdjdaaPw
set_option linter.unusedSimpArgs false
set_option linter.unusedVariables false
namespace Go.Proofs.Ytccioehckfdjdaa
open Go.RowKit Go.Tum Go.Tum.Y
theorem cfgV_field2 (c : Cfg) (w : World) : (Instr.field 24 (cfgV c) 0).run Try.prog w = .ok (.int .i64 c.t) w ∧ (Instr.field 24 (cfgV c) 1).run Try.prog w = .ok (.int .i64 c.b) w :=
  ⟨run_field_cell w _ _ _ _ _ _ _ Try.underlying24 rfl Try.underlying3 rfl rfl, run_field_cell w _ _ _ _ _ _ _ Try.underlying24 rfl Try.underlying3 rfl rfl⟩
theorem putS_done (s : W.S) (a v : Int) : (P.putS s a v).done.length ≤ s.done.length + 1 := by
  unfold P.putS W.put
  split <;> (try split) <;> (try split) <;> simp <;> omega
/-- A set and a pool's block, side by side. -/
abbrev sp (c : Cfg) (seq : Int) (b k : Nat) (mv v : Value) (p : P.St) (s : W.S) (R : List Thing) : List Thing :=
  setT k s :: blkT b 162 (P.poolL (mapCells c) seq mv v p) :: R
set_option maxRecDepth 100000 in
set_option maxHeartbeats 8000000 in
theorem prelease_full {w0 w : World} {R : List Thing} (b k : Nat) (c : Cfg) (hok : Y.Ok c) (seq : Int) (mv v : Value) (p : P.St) (s : W.S) (bb : Int) (hbb : 0 ≤ bb ∧ bb ≤ 1000) (hnt : 0 ≤ p.nt ∧ p.nt ≤ c.b) (h0 : ¬ p.nt < c.b) (hd : s.done.length ≤ 900000) (hS : Sep w0 w (sp c seq b k mv v p s R)) :
    Calls Try.prog 105 #[.pointer (some ⟨b, 0, none⟩), .pointer (some ⟨k, 0, none⟩), .int .i64 bb] w fun e w' => e = .returned (.tuple #[]) ∧ Sep w0 w' (sp c seq b k mv v p (P.putS s (at_ c 11 bb 0) 0) R) := by
  unfold P.putS
  have hd2 := putS_done s (at_ c 11 bb 0) 0
  unfold P.putS at hd2
  have hsz : (mapCells c).length = 24 := rfl
  have HA := Lib.hid (fun w kind i k => at_any w c hok kind i k)
  have HC := Lib.hid (fun w => pcfg_any w c)
  have HFD := Lib.hid (fun w => cfgV_field2 c w)
  have HP := Lib.hid (fun (w' : World) (s : W.S) (R : List Thing) (hd : s.done.length ≤ 1000000) (hS : Sep w0 w' (setT k s :: R)) a v => put_sep (w0 := w0) (w := w') (R := R) (b := k) (s := s) hS hd a v)
  have ht8 := hok.t8
  have ht1 := hok.t1
  have hb1 := hok.b1
  have hb64 := hok.b64
  unfold sp mapV at *
  generalize hcf : cfgV c = cf at *
  clear hcf
  generalize mapCells c = cs at *
  obtain ⟨pn, pf, pwt, pwl, nt, nl, lim, ps⟩ := p
  dsimp only at *
  have HS := Lib.hid hS; clear hS
  generalize hTL : setT k _ :: _ = TL
  have HTL := Lib.hid hTL; clear hTL
  have hB1 := HS.out.blk 1 rfl
  have kf := P.pf hsz seq mv v ⟨pn, pf, pwt, pwl, nt, nl, lim, ps⟩
  have k27 := (hB1.cell 27).trans kf.wt
  have k28 := (hB1.cell 28).trans kf.wl
  have k29 := (hB1.cell 29).trans kf.nt
  have k30 := (hB1.cell 30).trans kf.nl
  have f29 := hB1.froz 29
  have f30 := hB1.froz 30
  have kl := hB1.lt
  have hmd := hB1.drew
  unfold P.poolL at hmd hB1
  clear kf
  have hd : s.done.length ≤ 1000000 := by omega
  have hfb1 := fun w => (HFD.out w).2
  go_enter Try.func105, Try.ntmps105
  -- Life is told 0
  go_wp2_with (refine wpList_load_any 31 _ rfl rfl _ 0 rfl cs _ (Blk.pre hB1) Try.underlying31 rfl (by rw [hsz]; kernel_rfl) ?_)
  refine (HA.out _ _ _ _).mono ?_
  rintro e w2 ⟨rfl, hf⟩
  clear hB1 k27 k28 k29 k30 f29 f30 kl hmd
  have HS := Lib.hid (HS.out.fr0 hf); clear hf
  have hB1 := HS.out.blk 1 rfl
  have kf := P.pf hsz seq mv v ⟨pn, pf, pwt, pwl, nt, nl, lim, ps⟩
  have k27 := (hB1.cell 27).trans kf.wt
  have k28 := (hB1.cell 28).trans kf.wl
  have k29 := (hB1.cell 29).trans kf.nt
  have k30 := (hB1.cell 30).trans kf.nl
  have f29 := hB1.froz 29
  have f30 := hB1.froz 30
  have kl := hB1.lt
  have hmd := hB1.drew
  unfold P.poolL at hmd hB1
  clear kf
  go_wp2_with fail
  refine (HP.out _ _ _ hd HS.out _ _).mono ?_
  rintro e w3 ⟨rfl, h3⟩
  clear hB1 k27 k28 k29 k30 f29 f30 kl hmd
  have HS := Lib.hid h3; clear h3
  have hB1 := HS.out.blk 1 rfl
  have kf := P.pf hsz seq mv v ⟨pn, pf, pwt, pwl, nt, nl, lim, ps⟩
  have k27 := (hB1.cell 27).trans kf.wt
  have k28 := (hB1.cell 28).trans kf.wl
  have k29 := (hB1.cell 29).trans kf.nt
  have k30 := (hB1.cell 30).trans kf.nl
  have f29 := hB1.froz 29
  have f30 := hB1.froz 30
  have kl := hB1.lt
  have hmd := hB1.drew
  unfold P.poolL at hmd hB1
  clear kf
  go_wp2_with fail
  refine wp_region_fr [(1, [0, 1, 2, 3, 4, 5, 6, 7, 8]), (2, [9]), (0, [10, 11])] [] (by kernel_rfl) (by kernel_rfl) ?_
  simp only [theOps, nthOp, List.map_cons, List.map_nil, Array.getD_eq_getD_getElem?, List.getElem?_toArray, List.getElem?_cons_succ, List.getElem?_cons_zero, Option.getD_some]
  refine wpSegs_soft ?_
  iterate 8 (first | go_big_quiet_step (fail) | quiet_step (fail))
  refine wpQuiet_load_mid 31 _ b 0 cs _ rfl rfl rfl (rangeAt_pre hmd (by simp)) Try.underlying31 rfl (by rw [hsz]; kernel_rfl) ?_
  simp only [Act.put, List.setIfInBounds_toArray, List.set_cons_zero, List.set_cons_succ]
  repeat (first | go_big_quiet_step (fail) | quiet_step (fail))
  refine wpQuiet_nil ?_
  refine wpSegs_keep ?_
  go_wp2_with fail
  refine (HC.out _).mono ?_
  rintro e w4 ⟨rfl, hf⟩
  have HF := Lib.hid hf
  have HS := Lib.hid (HS.out.drew.fr0 hf); clear hf
  go_wp2_with fail
  refine ⟨⟨⟨_, (by exact HF.out)⟩, rfl⟩, ?_⟩
  repeat ((first | refine wpSegs_soft ?_ | refine wpSegs_pure ?_ | refine wpSegs_here ?_); (repeat (first | go_big_quiet_step (fail) | quiet_step (fail))); refine wpQuiet_nil ?_)
  refine wpSegs_done ?_
  clear hB1 k27 k28 k29 k30 f29 f30 kl hmd
  have hB1 := HS.out.blk 1 rfl
  have kf := P.pf hsz seq mv v ⟨pn, pf, pwt, pwl, nt, nl, lim, ps⟩
  have k27 := (hB1.cell 27).trans kf.wt
  have k28 := (hB1.cell 28).trans kf.wl
  have k29 := (hB1.cell 29).trans kf.nt
  have k30 := (hB1.cell 30).trans kf.nl
  have f29 := hB1.froz 29
  have f30 := hB1.froz 30
  have kl := hB1.lt
  have hmd := hB1.drew
  unfold P.poolL at hmd hB1
  clear kf
  have d1 : decide (nt < c.b) = false := by simpa using h0
  go_wp2_with fail
  go_end0
  exact ⟨rfl, HTL.out ▸ HS.out⟩
set_option maxRecDepth 100000 in
set_option maxHeartbeats 8000000 in
theorem prelease_room {w0 w : World} {R : List Thing} (b k : Nat) (c : Cfg) (hok : Y.Ok c) (seq : Int) (mv v : Value) (p : P.St) (s : W.S) (bb : Int) (hbb : 0 ≤ bb ∧ bb ≤ 1000) (hnt : 0 ≤ p.nt ∧ p.nt ≤ c.b) (h0 : p.nt < c.b) (hd : s.done.length ≤ 900000) (hS : Sep w0 w (sp c seq b k mv v p s R)) :
    Calls Try.prog 105 #[.pointer (some ⟨b, 0, none⟩), .pointer (some ⟨k, 0, none⟩), .int .i64 bb] w fun e w' => e = .returned (.tuple #[]) ∧ Sep w0 w' (sp c seq b k mv v { p with nt := p.nt + 1 } (P.putS (P.putS s (at_ c 11 bb 0) 0) (at_ c 13 p.nt 0) bb) R) := by
  unfold P.putS
  have hd2 := putS_done s (at_ c 11 bb 0) 0
  unfold P.putS at hd2
  have hsz : (mapCells c).length = 24 := rfl
  have HA := Lib.hid (fun w kind i k => at_any w c hok kind i k)
  have HC := Lib.hid (fun w => pcfg_any w c)
  have HFD := Lib.hid (fun w => cfgV_field2 c w)
  have HP := Lib.hid (fun (w' : World) (s : W.S) (R : List Thing) (hd : s.done.length ≤ 1000000) (hS : Sep w0 w' (setT k s :: R)) a v => put_sep (w0 := w0) (w := w') (R := R) (b := k) (s := s) hS hd a v)
  have ht8 := hok.t8
  have ht1 := hok.t1
  have hb1 := hok.b1
  have hb64 := hok.b64
  unfold sp mapV at *
  generalize hcf : cfgV c = cf at *
  clear hcf
  generalize mapCells c = cs at *
  obtain ⟨pn, pf, pwt, pwl, nt, nl, lim, ps⟩ := p
  dsimp only at *
  have HS := Lib.hid hS; clear hS
  generalize hTL : setT k _ :: _ = TL
  have HTL := Lib.hid hTL; clear hTL
  have hB1 := HS.out.blk 1 rfl
  have kf := P.pf hsz seq mv v ⟨pn, pf, pwt, pwl, nt, nl, lim, ps⟩
  have k27 := (hB1.cell 27).trans kf.wt
  have k28 := (hB1.cell 28).trans kf.wl
  have k29 := (hB1.cell 29).trans kf.nt
  have k30 := (hB1.cell 30).trans kf.nl
  have f29 := hB1.froz 29
  have f30 := hB1.froz 30
  have kl := hB1.lt
  have hmd := hB1.drew
  unfold P.poolL at hmd hB1
  clear kf
  have hd : s.done.length ≤ 1000000 := by omega
  have hfb1 := fun w => (HFD.out w).2
  go_enter Try.func105, Try.ntmps105
  -- Life is told 0
  go_wp2_with (refine wpList_load_any 31 _ rfl rfl _ 0 rfl cs _ (Blk.pre hB1) Try.underlying31 rfl (by rw [hsz]; kernel_rfl) ?_)
  refine (HA.out _ _ _ _).mono ?_
  rintro e w2 ⟨rfl, hf⟩
  clear hB1 k27 k28 k29 k30 f29 f30 kl hmd
  have HS := Lib.hid (HS.out.fr0 hf); clear hf
  have hB1 := HS.out.blk 1 rfl
  have kf := P.pf hsz seq mv v ⟨pn, pf, pwt, pwl, nt, nl, lim, ps⟩
  have k27 := (hB1.cell 27).trans kf.wt
  have k28 := (hB1.cell 28).trans kf.wl
  have k29 := (hB1.cell 29).trans kf.nt
  have k30 := (hB1.cell 30).trans kf.nl
  have f29 := hB1.froz 29
  have f30 := hB1.froz 30
  have kl := hB1.lt
  have hmd := hB1.drew
  unfold P.poolL at hmd hB1
  clear kf
  go_wp2_with fail
  refine (HP.out _ _ _ hd HS.out _ _).mono ?_
  rintro e w3 ⟨rfl, h3⟩
  clear hB1 k27 k28 k29 k30 f29 f30 kl hmd
  have HS := Lib.hid h3; clear h3
  have hB1 := HS.out.blk 1 rfl
  have kf := P.pf hsz seq mv v ⟨pn, pf, pwt, pwl, nt, nl, lim, ps⟩
  have k27 := (hB1.cell 27).trans kf.wt
  have k28 := (hB1.cell 28).trans kf.wl
  have k29 := (hB1.cell 29).trans kf.nt
  have k30 := (hB1.cell 30).trans kf.nl
  have f29 := hB1.froz 29
  have f30 := hB1.froz 30
  have kl := hB1.lt
  have hmd := hB1.drew
  unfold P.poolL at hmd hB1
  clear kf
  go_wp2_with fail
  refine wp_region_fr [(1, [0, 1, 2, 3, 4, 5, 6, 7, 8]), (2, [9]), (0, [10, 11])] [] (by kernel_rfl) (by kernel_rfl) ?_
  simp only [theOps, nthOp, List.map_cons, List.map_nil, Array.getD_eq_getD_getElem?, List.getElem?_toArray, List.getElem?_cons_succ, List.getElem?_cons_zero, Option.getD_some]
  refine wpSegs_soft ?_
  iterate 8 (first | go_big_quiet_step (fail) | quiet_step (fail))
  refine wpQuiet_load_mid 31 _ b 0 cs _ rfl rfl rfl (rangeAt_pre hmd (by simp)) Try.underlying31 rfl (by rw [hsz]; kernel_rfl) ?_
  simp only [Act.put, List.setIfInBounds_toArray, List.set_cons_zero, List.set_cons_succ]
  repeat (first | go_big_quiet_step (fail) | quiet_step (fail))
  refine wpQuiet_nil ?_
  refine wpSegs_keep ?_
  go_wp2_with fail
  refine (HC.out _).mono ?_
  rintro e w4 ⟨rfl, hf⟩
  have HF := Lib.hid hf
  have HS := Lib.hid (HS.out.drew.fr0 hf); clear hf
  go_wp2_with fail
  refine ⟨⟨⟨_, (by exact HF.out)⟩, rfl⟩, ?_⟩
  repeat ((first | refine wpSegs_soft ?_ | refine wpSegs_pure ?_ | refine wpSegs_here ?_); (repeat (first | go_big_quiet_step (fail) | quiet_step (fail))); refine wpQuiet_nil ?_)
  refine wpSegs_done ?_
  clear hB1 k27 k28 k29 k30 f29 f30 kl hmd
  have hB1 := HS.out.blk 1 rfl
  have kf := P.pf hsz seq mv v ⟨pn, pf, pwt, pwl, nt, nl, lim, ps⟩
  have k27 := (hB1.cell 27).trans kf.wt
  have k28 := (hB1.cell 28).trans kf.wl
  have k29 := (hB1.cell 29).trans kf.nt
  have k30 := (hB1.cell 30).trans kf.nl
  have f29 := hB1.froz 29
  have f30 := hB1.froz 30
  have kl := hB1.lt
  have hmd := hB1.drew
  unfold P.poolL at hmd hB1
  clear kf
  have d1 : decide (nt < c.b) = true := by simpa using h0
  have hwb : IntKind.u64.wrap bb = bb := by rw [IntKind.wrap_u64]; omega
  have hwn : IntKind.i64.wrap (nt + 1) = nt + 1 := wrap_i64_id _ (by omega) (by omega)
  have hd3 : (W.put s (at_ c 11 bb 0) 0).1.done.length ≤ 1000000 := by omega
  clear h0
  go_wp2_with fail
  refine wp_region_fr [(1, [1, 2, 3, 4, 5, 6, 7, 8, 9]), (0, [0, 11, 12]), (3, [10]), (3, [13])] [] (by kernel_rfl) (by kernel_rfl) ?_
  simp only [theOps, nthOp, List.map_cons, List.map_nil, Array.getD_eq_getD_getElem?, List.getElem?_toArray, List.getElem?_cons_succ, List.getElem?_cons_zero, Option.getD_some]
  refine wpSegs_soft ?_
  iterate 3 (first | go_big_quiet_step (fail) | quiet_step (fail))
  refine wpQuiet_load_mid 31 _ b 0 cs _ rfl rfl rfl (rangeAt_pre hmd (by simp)) Try.underlying31 rfl (by rw [hsz]; kernel_rfl) ?_
  simp only [Act.put, List.setIfInBounds_toArray, List.set_cons_zero, List.set_cons_succ]
  repeat (first | go_big_quiet_step (fail) | quiet_step (fail))
  refine wpQuiet_nil ?_
  repeat ((first | refine wpSegs_soft ?_ | refine wpSegs_pure ?_ | refine wpSegs_here ?_); (repeat (first | go_big_quiet_step (fail) | quiet_step (fail))); refine wpQuiet_nil ?_)
  refine wpSegs_hard ?_
  go_wp2_with fail
  refine (HA.out _ _ _ _).mono ?_
  rintro e w5 ⟨rfl, hf⟩
  clear hB1 k27 k28 k29 k30 f29 f30 kl hmd
  have HS := Lib.hid (HS.out.drew.fr0 hf); clear hf
  have hB1 := HS.out.blk 1 rfl
  have kf := P.pf hsz seq mv v ⟨pn, pf, pwt, pwl, nt, nl, lim, ps⟩
  have k27 := (hB1.cell 27).trans kf.wt
  have k28 := (hB1.cell 28).trans kf.wl
  have k29 := (hB1.cell 29).trans kf.nt
  have k30 := (hB1.cell 30).trans kf.nl
  have f29 := hB1.froz 29
  have f30 := hB1.froz 30
  have kl := hB1.lt
  have hmd := hB1.drew
  unfold P.poolL at hmd hB1
  clear kf
  go_wp2_with fail
  repeat ((first | refine wpSegs_soft ?_ | refine wpSegs_pure ?_ | refine wpSegs_here ?_); (repeat (first | go_big_quiet_step (fail) | quiet_step (fail))); refine wpQuiet_nil ?_)
  refine wpSegs_hard ?_
  go_wp2_with fail
  refine (HP.out _ _ _ hd3 HS.out _ _).mono ?_
  rintro e w6 ⟨rfl, h3⟩
  clear hB1 k27 k28 k29 k30 f29 f30 kl hmd
  have HS := Lib.hid h3; clear h3
  have hB1 := HS.out.blk 1 rfl
  have kf := P.pf hsz seq mv v ⟨pn, pf, pwt, pwl, nt, nl, lim, ps⟩
  have k27 := (hB1.cell 27).trans kf.wt
  have k28 := (hB1.cell 28).trans kf.wl
  have k29 := (hB1.cell 29).trans kf.nt
  have k30 := (hB1.cell 30).trans kf.nl
  have f29 := hB1.froz 29
  have f30 := hB1.froz 30
  have kl := hB1.lt
  have hmd := hB1.drew
  unfold P.poolL at hmd hB1
  clear kf
  go_wp2_with fail
  repeat ((first | refine wpSegs_soft ?_ | refine wpSegs_pure ?_ | refine wpSegs_here ?_); (repeat (first | go_big_quiet_step (fail) | quiet_step (fail))); refine wpQuiet_nil ?_)
  refine wpSegs_done ?_
  go_wp2_with fail
  go_end0
  have hS2 := HS.out.set 1 rfl 29 (.int .i64 (nt + 1))
  simp only [List.set_cons_zero, List.set_cons_succ, P.poolL_nt hsz] at hS2
  exact ⟨rfl, HTL.out ▸ hS2⟩
theorem prelease_of {w0 w : World} {R : List Thing} (b k : Nat) (c : Cfg) (hok : Y.Ok c) (seq : Int) (mv v : Value) (p : P.St) (s : W.S) (bb : Int) (hbb : 0 ≤ bb ∧ bb ≤ 1000) (hnt : 0 ≤ p.nt ∧ p.nt ≤ c.b) (hd : s.done.length ≤ 900000) (hS : Sep w0 w (sp c seq b k mv v p s R)) :
    Calls Try.prog 105 #[.pointer (some ⟨b, 0, none⟩), .pointer (some ⟨k, 0, none⟩), .int .i64 bb] w fun e w' => e = .returned (.tuple #[]) ∧ Sep w0 w' (sp c seq b k mv v (P.release c (p, s) bb).1 (P.release c (p, s) bb).2 R) := by
  unfold P.release
  dsimp only
  by_cases h : p.nt < c.b
  · rw [if_pos h]; exact prelease_room b k c hok seq mv v p s bb hbb hnt h hd hS
  · rw [if_neg h]; exact prelease_full b k c hok seq mv v p s bb hbb hnt h hd hS
end Go.Proofs.Ytccioehckfdjdaa
