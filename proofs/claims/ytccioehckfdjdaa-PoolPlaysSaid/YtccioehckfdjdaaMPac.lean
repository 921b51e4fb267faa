/- Several texts in one: Prel, Pgive, Pend, Ptake. -/
import Derived.Test.YtccioehckfdjdaaPw
/- The walk of pool's release: over a set, and the state's block. -/
section
set_option linter.unusedSimpArgs false
set_option linter.unusedVariables false
namespace Go.Proofs.Ytccioehckfdjdaa
open Go.RowKit Go.Tum Go.Tum.Y
theorem cfgV_field2 (c : Cfg) (w : World) : (Instr.field 24 (cfgV c) 0).run Try.prog w = .ok (.int .i64 c.t) w ∧ (Instr.field 24 (cfgV c) 1).run Try.prog w = .ok (.int .i64 c.b) w :=
  ⟨run_field_cell w _ _ _ _ _ _ _ Try.underlying24 rfl Try.underlying3 rfl rfl, run_field_cell w _ _ _ _ _ _ _ Try.underlying24 rfl Try.underlying3 rfl rfl⟩
theorem putS_done (s : W.S) (a v : Int) : (P.putS s a v).done.length ≤ s.done.length + 1 := by
  unfold P.putS W.put
  split <;> (try split) <;> (try split) <;> simp <;> omega
/-- A set and a pool's block, side by side. -/
abbrev sp (c : Cfg) (seq : Int) (b k : Nat) (mv v : Value) (p : P.St) (s : W.S) (R : List Thing) : List Thing :=
  setT k s :: blkT b 162 (P.poolL (mapCells c) seq mv v p) :: R
set_option maxRecDepth 100000 in
set_option maxHeartbeats 8000000 in
theorem prelease_full {w0 w : World} {R : List Thing} (b k : Nat) (c : Cfg) (hok : Y.Ok c) (seq : Int) (mv v : Value) (p : P.St) (s : W.S) (bb : Int) (hbb : 0 ≤ bb ∧ bb ≤ 1000) (hnt : 0 ≤ p.nt ∧ p.nt ≤ c.b) (h0 : ¬ p.nt < c.b) (hd : s.done.length ≤ 900000) (hS : Sep w0 w (sp c seq b k mv v p s R)) :
    Calls Try.prog 105 #[.pointer (some ⟨b, 0, none⟩), .pointer (some ⟨k, 0, none⟩), .int .i64 bb] w fun e w' => e = .returned (.tuple #[]) ∧ Sep w0 w' (sp c seq b k mv v p (P.putS s (at_ c 11 bb 0) 0) R) := by
  unfold P.putS
  have hd2 := putS_done s (at_ c 11 bb 0) 0
  unfold P.putS at hd2
  have hsz : (mapCells c).length = 24 := rfl
  have HA := Lib.hid (fun w kind i k => at_any w c hok kind i k)
  have HC := Lib.hid (fun w => pcfg_any w c)
  have HFD := Lib.hid (fun w => cfgV_field2 c w)
  have HP := Lib.hid (fun (w' : World) (s : W.S) (R : List Thing) (hd : s.done.length ≤ 1000000) (hS : Sep w0 w' (setT k s :: R)) a v => put_sep (w0 := w0) (w := w') (R := R) (b := k) (s := s) hS hd a v)
  have ht8 := hok.t8
  have ht1 := hok.t1
  have hb1 := hok.b1
  have hb64 := hok.b64
  unfold sp mapV at *
  generalize hcf : cfgV c = cf at *
  clear hcf
  generalize mapCells c = cs at *
  obtain ⟨pn, pf, pwt, pwl, nt, nl, lim, ps⟩ := p
  dsimp only at *
  have HS := Lib.hid hS; clear hS
  generalize hTL : setT k _ :: _ = TL
  have HTL := Lib.hid hTL; clear hTL
  have hB1 := HS.out.blk 1 rfl
  have kf := P.pf hsz seq mv v ⟨pn, pf, pwt, pwl, nt, nl, lim, ps⟩
  have k27 := (hB1.cell 27).trans kf.wt
  have k28 := (hB1.cell 28).trans kf.wl
  have k29 := (hB1.cell 29).trans kf.nt
  have k30 := (hB1.cell 30).trans kf.nl
  have f29 := hB1.froz 29
  have f30 := hB1.froz 30
  have kl := hB1.lt
  have hmd := hB1.drew
  unfold P.poolL at hmd hB1
  clear kf
  have hd : s.done.length ≤ 1000000 := by omega
  have hfb1 := fun w => (HFD.out w).2
  go_enter Try.func105, Try.ntmps105
  -- Life is told 0
  go_wp2_with (refine wpList_load_any 31 _ rfl rfl _ 0 rfl cs _ (Blk.pre hB1) Try.underlying31 rfl (by rw [hsz]; kernel_rfl) ?_)
  refine (HA.out _ _ _ _).mono ?_
  rintro e w2 ⟨rfl, hf⟩
  clear hB1 k27 k28 k29 k30 f29 f30 kl hmd
  have HS := Lib.hid (HS.out.fr0 hf); clear hf
  have hB1 := HS.out.blk 1 rfl
  have kf := P.pf hsz seq mv v ⟨pn, pf, pwt, pwl, nt, nl, lim, ps⟩
  have k27 := (hB1.cell 27).trans kf.wt
  have k28 := (hB1.cell 28).trans kf.wl
  have k29 := (hB1.cell 29).trans kf.nt
  have k30 := (hB1.cell 30).trans kf.nl
  have f29 := hB1.froz 29
  have f30 := hB1.froz 30
  have kl := hB1.lt
  have hmd := hB1.drew
  unfold P.poolL at hmd hB1
  clear kf
  go_wp2_with fail
  refine (HP.out _ _ _ hd HS.out _ _).mono ?_
  rintro e w3 ⟨rfl, h3⟩
  clear hB1 k27 k28 k29 k30 f29 f30 kl hmd
  have HS := Lib.hid h3; clear h3
  have hB1 := HS.out.blk 1 rfl
  have kf := P.pf hsz seq mv v ⟨pn, pf, pwt, pwl, nt, nl, lim, ps⟩
  have k27 := (hB1.cell 27).trans kf.wt
  have k28 := (hB1.cell 28).trans kf.wl
  have k29 := (hB1.cell 29).trans kf.nt
  have k30 := (hB1.cell 30).trans kf.nl
  have f29 := hB1.froz 29
  have f30 := hB1.froz 30
  have kl := hB1.lt
  have hmd := hB1.drew
  unfold P.poolL at hmd hB1
  clear kf
  go_wp2_with fail
  refine wp_region_fr [(1, [0, 1, 2, 3, 4, 5, 6, 7, 8]), (2, [9]), (0, [10, 11])] [] (by kernel_rfl) (by kernel_rfl) ?_
  simp only [theOps, nthOp, List.map_cons, List.map_nil, Array.getD_eq_getD_getElem?, List.getElem?_toArray, List.getElem?_cons_succ, List.getElem?_cons_zero, Option.getD_some]
  refine wpSegs_soft ?_
  iterate 8 (first | go_big_quiet_step (fail) | quiet_step (fail))
  refine wpQuiet_load_mid 31 _ b 0 cs _ rfl rfl rfl (rangeAt_pre hmd (by simp)) Try.underlying31 rfl (by rw [hsz]; kernel_rfl) ?_
  simp only [Act.put, List.setIfInBounds_toArray, List.set_cons_zero, List.set_cons_succ]
  repeat (first | go_big_quiet_step (fail) | quiet_step (fail))
  refine wpQuiet_nil ?_
  refine wpSegs_keep ?_
  go_wp2_with fail
  refine (HC.out _).mono ?_
  rintro e w4 ⟨rfl, hf⟩
  have HF := Lib.hid hf
  have HS := Lib.hid (HS.out.drew.fr0 hf); clear hf
  go_wp2_with fail
  refine ⟨⟨⟨_, (by exact HF.out)⟩, rfl⟩, ?_⟩
  repeat ((first | refine wpSegs_soft ?_ | refine wpSegs_pure ?_ | refine wpSegs_here ?_); (repeat (first | go_big_quiet_step (fail) | quiet_step (fail))); refine wpQuiet_nil ?_)
  refine wpSegs_done ?_
  clear hB1 k27 k28 k29 k30 f29 f30 kl hmd
  have hB1 := HS.out.blk 1 rfl
  have kf := P.pf hsz seq mv v ⟨pn, pf, pwt, pwl, nt, nl, lim, ps⟩
  have k27 := (hB1.cell 27).trans kf.wt
  have k28 := (hB1.cell 28).trans kf.wl
  have k29 := (hB1.cell 29).trans kf.nt
  have k30 := (hB1.cell 30).trans kf.nl
  have f29 := hB1.froz 29
  have f30 := hB1.froz 30
  have kl := hB1.lt
  have hmd := hB1.drew
  unfold P.poolL at hmd hB1
  clear kf
  have d1 : decide (nt < c.b) = false := by simpa using h0
  go_wp2_with fail
  go_end0
  exact ⟨rfl, HTL.out ▸ HS.out⟩
set_option maxRecDepth 100000 in
set_option maxHeartbeats 8000000 in
theorem prelease_room {w0 w : World} {R : List Thing} (b k : Nat) (c : Cfg) (hok : Y.Ok c) (seq : Int) (mv v : Value) (p : P.St) (s : W.S) (bb : Int) (hbb : 0 ≤ bb ∧ bb ≤ 1000) (hnt : 0 ≤ p.nt ∧ p.nt ≤ c.b) (h0 : p.nt < c.b) (hd : s.done.length ≤ 900000) (hS : Sep w0 w (sp c seq b k mv v p s R)) :
    Calls Try.prog 105 #[.pointer (some ⟨b, 0, none⟩), .pointer (some ⟨k, 0, none⟩), .int .i64 bb] w fun e w' => e = .returned (.tuple #[]) ∧ Sep w0 w' (sp c seq b k mv v { p with nt := p.nt + 1 } (P.putS (P.putS s (at_ c 11 bb 0) 0) (at_ c 13 p.nt 0) bb) R) := by
  unfold P.putS
  have hd2 := putS_done s (at_ c 11 bb 0) 0
  unfold P.putS at hd2
  have hsz : (mapCells c).length = 24 := rfl
  have HA := Lib.hid (fun w kind i k => at_any w c hok kind i k)
  have HC := Lib.hid (fun w => pcfg_any w c)
  have HFD := Lib.hid (fun w => cfgV_field2 c w)
  have HP := Lib.hid (fun (w' : World) (s : W.S) (R : List Thing) (hd : s.done.length ≤ 1000000) (hS : Sep w0 w' (setT k s :: R)) a v => put_sep (w0 := w0) (w := w') (R := R) (b := k) (s := s) hS hd a v)
  have ht8 := hok.t8
  have ht1 := hok.t1
  have hb1 := hok.b1
  have hb64 := hok.b64
  unfold sp mapV at *
  generalize hcf : cfgV c = cf at *
  clear hcf
  generalize mapCells c = cs at *
  obtain ⟨pn, pf, pwt, pwl, nt, nl, lim, ps⟩ := p
  dsimp only at *
  have HS := Lib.hid hS; clear hS
  generalize hTL : setT k _ :: _ = TL
  have HTL := Lib.hid hTL; clear hTL
  have hB1 := HS.out.blk 1 rfl
  have kf := P.pf hsz seq mv v ⟨pn, pf, pwt, pwl, nt, nl, lim, ps⟩
  have k27 := (hB1.cell 27).trans kf.wt
  have k28 := (hB1.cell 28).trans kf.wl
  have k29 := (hB1.cell 29).trans kf.nt
  have k30 := (hB1.cell 30).trans kf.nl
  have f29 := hB1.froz 29
  have f30 := hB1.froz 30
  have kl := hB1.lt
  have hmd := hB1.drew
  unfold P.poolL at hmd hB1
  clear kf
  have hd : s.done.length ≤ 1000000 := by omega
  have hfb1 := fun w => (HFD.out w).2
  go_enter Try.func105, Try.ntmps105
  -- Life is told 0
  go_wp2_with (refine wpList_load_any 31 _ rfl rfl _ 0 rfl cs _ (Blk.pre hB1) Try.underlying31 rfl (by rw [hsz]; kernel_rfl) ?_)
  refine (HA.out _ _ _ _).mono ?_
  rintro e w2 ⟨rfl, hf⟩
  clear hB1 k27 k28 k29 k30 f29 f30 kl hmd
  have HS := Lib.hid (HS.out.fr0 hf); clear hf
  have hB1 := HS.out.blk 1 rfl
  have kf := P.pf hsz seq mv v ⟨pn, pf, pwt, pwl, nt, nl, lim, ps⟩
  have k27 := (hB1.cell 27).trans kf.wt
  have k28 := (hB1.cell 28).trans kf.wl
  have k29 := (hB1.cell 29).trans kf.nt
  have k30 := (hB1.cell 30).trans kf.nl
  have f29 := hB1.froz 29
  have f30 := hB1.froz 30
  have kl := hB1.lt
  have hmd := hB1.drew
  unfold P.poolL at hmd hB1
  clear kf
  go_wp2_with fail
  refine (HP.out _ _ _ hd HS.out _ _).mono ?_
  rintro e w3 ⟨rfl, h3⟩
  clear hB1 k27 k28 k29 k30 f29 f30 kl hmd
  have HS := Lib.hid h3; clear h3
  have hB1 := HS.out.blk 1 rfl
  have kf := P.pf hsz seq mv v ⟨pn, pf, pwt, pwl, nt, nl, lim, ps⟩
  have k27 := (hB1.cell 27).trans kf.wt
  have k28 := (hB1.cell 28).trans kf.wl
  have k29 := (hB1.cell 29).trans kf.nt
  have k30 := (hB1.cell 30).trans kf.nl
  have f29 := hB1.froz 29
  have f30 := hB1.froz 30
  have kl := hB1.lt
  have hmd := hB1.drew
  unfold P.poolL at hmd hB1
  clear kf
  go_wp2_with fail
  refine wp_region_fr [(1, [0, 1, 2, 3, 4, 5, 6, 7, 8]), (2, [9]), (0, [10, 11])] [] (by kernel_rfl) (by kernel_rfl) ?_
  simp only [theOps, nthOp, List.map_cons, List.map_nil, Array.getD_eq_getD_getElem?, List.getElem?_toArray, List.getElem?_cons_succ, List.getElem?_cons_zero, Option.getD_some]
  refine wpSegs_soft ?_
  iterate 8 (first | go_big_quiet_step (fail) | quiet_step (fail))
  refine wpQuiet_load_mid 31 _ b 0 cs _ rfl rfl rfl (rangeAt_pre hmd (by simp)) Try.underlying31 rfl (by rw [hsz]; kernel_rfl) ?_
  simp only [Act.put, List.setIfInBounds_toArray, List.set_cons_zero, List.set_cons_succ]
  repeat (first | go_big_quiet_step (fail) | quiet_step (fail))
  refine wpQuiet_nil ?_
  refine wpSegs_keep ?_
  go_wp2_with fail
  refine (HC.out _).mono ?_
  rintro e w4 ⟨rfl, hf⟩
  have HF := Lib.hid hf
  have HS := Lib.hid (HS.out.drew.fr0 hf); clear hf
  go_wp2_with fail
  refine ⟨⟨⟨_, (by exact HF.out)⟩, rfl⟩, ?_⟩
  repeat ((first | refine wpSegs_soft ?_ | refine wpSegs_pure ?_ | refine wpSegs_here ?_); (repeat (first | go_big_quiet_step (fail) | quiet_step (fail))); refine wpQuiet_nil ?_)
  refine wpSegs_done ?_
  clear hB1 k27 k28 k29 k30 f29 f30 kl hmd
  have hB1 := HS.out.blk 1 rfl
  have kf := P.pf hsz seq mv v ⟨pn, pf, pwt, pwl, nt, nl, lim, ps⟩
  have k27 := (hB1.cell 27).trans kf.wt
  have k28 := (hB1.cell 28).trans kf.wl
  have k29 := (hB1.cell 29).trans kf.nt
  have k30 := (hB1.cell 30).trans kf.nl
  have f29 := hB1.froz 29
  have f30 := hB1.froz 30
  have kl := hB1.lt
  have hmd := hB1.drew
  unfold P.poolL at hmd hB1
  clear kf
  have d1 : decide (nt < c.b) = true := by simpa using h0
  have hwb : IntKind.u64.wrap bb = bb := by rw [IntKind.wrap_u64]; omega
  have hwn : IntKind.i64.wrap (nt + 1) = nt + 1 := wrap_i64_id _ (by omega) (by omega)
  have hd3 : (W.put s (at_ c 11 bb 0) 0).1.done.length ≤ 1000000 := by omega
  clear h0
  go_wp2_with fail
  refine wp_region_fr [(1, [1, 2, 3, 4, 5, 6, 7, 8, 9]), (0, [0, 11, 12]), (3, [10]), (3, [13])] [] (by kernel_rfl) (by kernel_rfl) ?_
  simp only [theOps, nthOp, List.map_cons, List.map_nil, Array.getD_eq_getD_getElem?, List.getElem?_toArray, List.getElem?_cons_succ, List.getElem?_cons_zero, Option.getD_some]
  refine wpSegs_soft ?_
  iterate 3 (first | go_big_quiet_step (fail) | quiet_step (fail))
  refine wpQuiet_load_mid 31 _ b 0 cs _ rfl rfl rfl (rangeAt_pre hmd (by simp)) Try.underlying31 rfl (by rw [hsz]; kernel_rfl) ?_
  simp only [Act.put, List.setIfInBounds_toArray, List.set_cons_zero, List.set_cons_succ]
  repeat (first | go_big_quiet_step (fail) | quiet_step (fail))
  refine wpQuiet_nil ?_
  repeat ((first | refine wpSegs_soft ?_ | refine wpSegs_pure ?_ | refine wpSegs_here ?_); (repeat (first | go_big_quiet_step (fail) | quiet_step (fail))); refine wpQuiet_nil ?_)
  refine wpSegs_hard ?_
  go_wp2_with fail
  refine (HA.out _ _ _ _).mono ?_
  rintro e w5 ⟨rfl, hf⟩
  clear hB1 k27 k28 k29 k30 f29 f30 kl hmd
  have HS := Lib.hid (HS.out.drew.fr0 hf); clear hf
  have hB1 := HS.out.blk 1 rfl
  have kf := P.pf hsz seq mv v ⟨pn, pf, pwt, pwl, nt, nl, lim, ps⟩
  have k27 := (hB1.cell 27).trans kf.wt
  have k28 := (hB1.cell 28).trans kf.wl
  have k29 := (hB1.cell 29).trans kf.nt
  have k30 := (hB1.cell 30).trans kf.nl
  have f29 := hB1.froz 29
  have f30 := hB1.froz 30
  have kl := hB1.lt
  have hmd := hB1.drew
  unfold P.poolL at hmd hB1
  clear kf
  go_wp2_with fail
  repeat ((first | refine wpSegs_soft ?_ | refine wpSegs_pure ?_ | refine wpSegs_here ?_); (repeat (first | go_big_quiet_step (fail) | quiet_step (fail))); refine wpQuiet_nil ?_)
  refine wpSegs_hard ?_
  go_wp2_with fail
  refine (HP.out _ _ _ hd3 HS.out _ _).mono ?_
  rintro e w6 ⟨rfl, h3⟩
  clear hB1 k27 k28 k29 k30 f29 f30 kl hmd
  have HS := Lib.hid h3; clear h3
  have hB1 := HS.out.blk 1 rfl
  have kf := P.pf hsz seq mv v ⟨pn, pf, pwt, pwl, nt, nl, lim, ps⟩
  have k27 := (hB1.cell 27).trans kf.wt
  have k28 := (hB1.cell 28).trans kf.wl
  have k29 := (hB1.cell 29).trans kf.nt
  have k30 := (hB1.cell 30).trans kf.nl
  have f29 := hB1.froz 29
  have f30 := hB1.froz 30
  have kl := hB1.lt
  have hmd := hB1.drew
  unfold P.poolL at hmd hB1
  clear kf
  go_wp2_with fail
  repeat ((first | refine wpSegs_soft ?_ | refine wpSegs_pure ?_ | refine wpSegs_here ?_); (repeat (first | go_big_quiet_step (fail) | quiet_step (fail))); refine wpQuiet_nil ?_)
  refine wpSegs_done ?_
  go_wp2_with fail
  go_end0
  have hS2 := HS.out.set 1 rfl 29 (.int .i64 (nt + 1))
  simp only [List.set_cons_zero, List.set_cons_succ, P.poolL_nt hsz] at hS2
  exact ⟨rfl, HTL.out ▸ hS2⟩
theorem prelease_of {w0 w : World} {R : List Thing} (b k : Nat) (c : Cfg) (hok : Y.Ok c) (seq : Int) (mv v : Value) (p : P.St) (s : W.S) (bb : Int) (hbb : 0 ≤ bb ∧ bb ≤ 1000) (hnt : 0 ≤ p.nt ∧ p.nt ≤ c.b) (hd : s.done.length ≤ 900000) (hS : Sep w0 w (sp c seq b k mv v p s R)) :
    Calls Try.prog 105 #[.pointer (some ⟨b, 0, none⟩), .pointer (some ⟨k, 0, none⟩), .int .i64 bb] w fun e w' => e = .returned (.tuple #[]) ∧ Sep w0 w' (sp c seq b k mv v (P.release c (p, s) bb).1 (P.release c (p, s) bb).2 R) := by
  unfold P.release
  dsimp only
  by_cases h : p.nt < c.b
  · rw [if_pos h]; exact prelease_room b k c hok seq mv v p s bb hbb hnt h hd hS
  · rw [if_neg h]; exact prelease_full b k c hok seq mv v p s bb hbb hnt h hd hS
end Go.Proofs.Ytccioehckfdjdaa
end

/- The walk of pool's Give: over a set, and the state's block. -/
section
set_option linter.unusedSimpArgs false
set_option linter.unusedVariables false
namespace Go.Proofs.Ytccioehckfdjdaa
open Go.RowKit Go.Tum Go.Tum.Y
set_option maxRecDepth 100000 in
set_option maxHeartbeats 8000000 in
theorem pgive_full {w0 w : World} {R : List Thing} (b k : Nat) (c : Cfg) (hok : Y.Ok c) (seq : Int) (mv v : Value) (p : P.St) (s : W.S) (bb : Int) (hnl : 0 ≤ p.nl ∧ p.nl ≤ limit c) (h0 : limit c ≤ p.nl) (hd : s.done.length ≤ 900000) (hS : Sep w0 w (sp c seq b k mv v p s R)) :
    Calls Try.prog 41 #[.pointer (some ⟨b, 0, none⟩), .pointer (some ⟨k, 0, none⟩), .int .i64 bb] w fun e w' => e = .returned (.tuple #[]) ∧ Sep w0 w' (sp c seq b k mv v p s R) := by
  have HLI := Lib.hid (fun w => limit_any w c hok)
  have hlm := limit_pos hok
  try unfold P.putS
  have hd2 := putS_done s (at_ c 11 bb 0) 2
  unfold P.putS at hd2
  have hsz : (mapCells c).length = 24 := rfl
  have HA := Lib.hid (fun w kind i k => at_any w c hok kind i k)
  have HC := Lib.hid (fun w => pcfg_any w c)
  have HFD := Lib.hid (fun w => cfgV_field2 c w)
  have HP := Lib.hid (fun (w' : World) (s : W.S) (R : List Thing) (hd : s.done.length ≤ 1000000) (hS : Sep w0 w' (setT k s :: R)) a v => put_sep (w0 := w0) (w := w') (R := R) (b := k) (s := s) hS hd a v)
  have ht8 := hok.t8
  have ht1 := hok.t1
  have hb1 := hok.b1
  have hb64 := hok.b64
  unfold sp mapV at *
  generalize hcf : cfgV c = cf at *
  clear hcf
  generalize mapCells c = cs at *
  obtain ⟨pn, pf, pwt, pwl, nt, nl, lim, ps⟩ := p
  dsimp only at *
  have HS := Lib.hid hS; clear hS
  generalize limit c = lk at *
  generalize hTL : setT k _ :: _ = TL
  have HTL := Lib.hid hTL; clear hTL
  have hB1 := HS.out.blk 1 rfl
  have kf := P.pf hsz seq mv v ⟨pn, pf, pwt, pwl, nt, nl, lim, ps⟩
  have k27 := (hB1.cell 27).trans kf.wt
  have k28 := (hB1.cell 28).trans kf.wl
  have k29 := (hB1.cell 29).trans kf.nt
  have k30 := (hB1.cell 30).trans kf.nl
  have f29 := hB1.froz 29
  have f30 := hB1.froz 30
  have kl := hB1.lt
  have hmd := hB1.drew
  unfold P.poolL at hmd hB1
  clear kf
  have hd : s.done.length ≤ 1000000 := by omega
  have d1 : decide (nl ≥ lk) = true := by simpa using h0
  go_enter Try.func41, Try.ntmps41
  go_wp2_with fail
  refine wp_region_fr [(1, [0, 1, 2, 3, 4, 5, 6, 7, 8]), (2, [9]), (0, [10, 11, 12, 13, 14, 16]), (3, [15]), (3, [17]), (0, [18, 19])] [] (by kernel_rfl) (by kernel_rfl) ?_
  simp only [theOps, nthOp, List.map_cons, List.map_nil, Array.getD_eq_getD_getElem?, List.getElem?_toArray, List.getElem?_cons_succ, List.getElem?_cons_zero, Option.getD_some]
  refine wpSegs_soft ?_
  iterate 8 (first | go_big_quiet_step (fail) | quiet_step (fail))
  refine wpQuiet_load_mid 31 _ b 0 cs _ rfl rfl rfl (rangeAt_pre hmd (by simp)) Try.underlying31 rfl (by rw [hsz]; kernel_rfl) ?_
  simp only [Act.put, List.setIfInBounds_toArray, List.set_cons_zero, List.set_cons_succ]
  repeat (first | go_big_quiet_step (fail) | quiet_step (fail))
  refine wpQuiet_nil ?_
  refine wpSegs_keep ?_
  go_wp2_with fail
  refine (HLI.out _).mono ?_
  rintro e w4 ⟨rfl, hf⟩
  have HF := Lib.hid hf
  have HS := Lib.hid (HS.out.drew.fr0 hf); clear hf
  go_wp2_with fail
  refine ⟨⟨⟨_, (by exact HF.out)⟩, rfl⟩, ?_⟩
  clear hB1 k27 k28 k29 k30 f29 f30 kl hmd
  have hB1 := HS.out.blk 1 rfl
  have kf := P.pf hsz seq mv v ⟨pn, pf, pwt, pwl, nt, nl, lim, ps⟩
  have k27 := (hB1.cell 27).trans kf.wt
  have k28 := (hB1.cell 28).trans kf.wl
  have k29 := (hB1.cell 29).trans kf.nt
  have k30 := (hB1.cell 30).trans kf.nl
  have f29 := hB1.froz 29
  have f30 := hB1.froz 30
  have kl := hB1.lt
  have hmd := hB1.drew
  unfold P.poolL at hmd hB1
  clear kf
  repeat ((first | refine wpSegs_soft ?_ | refine wpSegs_pure ?_ | refine wpSegs_here ?_); (repeat (first | go_big_quiet_step (fail) | quiet_step (fail))); refine wpQuiet_nil ?_)
  refine wpSegs_done ?_
  go_wp2_with fail
  refine bodyPost_ret (v := .tuple #[]) (by simp [results, Try.results41, go_sem]) rfl ?_
  exact ⟨rfl, HTL.out ▸ HS.out⟩
set_option maxRecDepth 100000 in
set_option maxHeartbeats 8000000 in
theorem pgive_no {w0 w : World} {R : List Thing} (b k : Nat) (c : Cfg) (hok : Y.Ok c) (seq : Int) (mv v : Value) (p : P.St) (s : W.S) (bb : Int) (hnl : 0 ≤ p.nl ∧ p.nl ≤ limit c) (h0 : ¬ limit c ≤ p.nl) (h1 : at_ c 11 bb 0 = -1) (hd : s.done.length ≤ 900000) (hS : Sep w0 w (sp c seq b k mv v p s R)) :
    Calls Try.prog 41 #[.pointer (some ⟨b, 0, none⟩), .pointer (some ⟨k, 0, none⟩), .int .i64 bb] w fun e w' => e = .returned (.tuple #[]) ∧ Sep w0 w' (sp c seq b k mv v p s R) := by
  have HLI := Lib.hid (fun w => limit_any w c hok)
  have hlm := limit_pos hok
  try unfold P.putS
  have hd2 := putS_done s (at_ c 11 bb 0) 2
  unfold P.putS at hd2
  have hsz : (mapCells c).length = 24 := rfl
  have HA := Lib.hid (fun w kind i k => at_any w c hok kind i k)
  have HC := Lib.hid (fun w => pcfg_any w c)
  have HFD := Lib.hid (fun w => cfgV_field2 c w)
  have HP := Lib.hid (fun (w' : World) (s : W.S) (R : List Thing) (hd : s.done.length ≤ 1000000) (hS : Sep w0 w' (setT k s :: R)) a v => put_sep (w0 := w0) (w := w') (R := R) (b := k) (s := s) hS hd a v)
  have ht8 := hok.t8
  have ht1 := hok.t1
  have hb1 := hok.b1
  have hb64 := hok.b64
  unfold sp mapV at *
  generalize hcf : cfgV c = cf at *
  clear hcf
  generalize mapCells c = cs at *
  obtain ⟨pn, pf, pwt, pwl, nt, nl, lim, ps⟩ := p
  dsimp only at *
  have HS := Lib.hid hS; clear hS
  generalize limit c = lk at *
  generalize hTL : setT k _ :: _ = TL
  have HTL := Lib.hid hTL; clear hTL
  have hB1 := HS.out.blk 1 rfl
  have kf := P.pf hsz seq mv v ⟨pn, pf, pwt, pwl, nt, nl, lim, ps⟩
  have k27 := (hB1.cell 27).trans kf.wt
  have k28 := (hB1.cell 28).trans kf.wl
  have k29 := (hB1.cell 29).trans kf.nt
  have k30 := (hB1.cell 30).trans kf.nl
  have f29 := hB1.froz 29
  have f30 := hB1.froz 30
  have kl := hB1.lt
  have hmd := hB1.drew
  unfold P.poolL at hmd hB1
  clear kf
  have hd : s.done.length ≤ 1000000 := by omega
  have d1 : decide (nl ≥ lk) = false := by simpa using h0
  go_enter Try.func41, Try.ntmps41
  go_wp2_with fail
  refine wp_region_fr [(1, [0, 1, 2, 3, 4, 5, 6, 7, 8]), (2, [9]), (0, [10, 11, 12, 13, 14, 16]), (3, [15]), (3, [17]), (0, [18, 19])] [] (by kernel_rfl) (by kernel_rfl) ?_
  simp only [theOps, nthOp, List.map_cons, List.map_nil, Array.getD_eq_getD_getElem?, List.getElem?_toArray, List.getElem?_cons_succ, List.getElem?_cons_zero, Option.getD_some]
  refine wpSegs_soft ?_
  iterate 8 (first | go_big_quiet_step (fail) | quiet_step (fail))
  refine wpQuiet_load_mid 31 _ b 0 cs _ rfl rfl rfl (rangeAt_pre hmd (by simp)) Try.underlying31 rfl (by rw [hsz]; kernel_rfl) ?_
  simp only [Act.put, List.setIfInBounds_toArray, List.set_cons_zero, List.set_cons_succ]
  repeat (first | go_big_quiet_step (fail) | quiet_step (fail))
  refine wpQuiet_nil ?_
  refine wpSegs_keep ?_
  go_wp2_with fail
  refine (HLI.out _).mono ?_
  rintro e w4 ⟨rfl, hf⟩
  have HF := Lib.hid hf
  have HS := Lib.hid (HS.out.drew.fr0 hf); clear hf
  go_wp2_with fail
  refine ⟨⟨⟨_, (by exact HF.out)⟩, rfl⟩, ?_⟩
  clear hB1 k27 k28 k29 k30 f29 f30 kl hmd
  have hB1 := HS.out.blk 1 rfl
  have kf := P.pf hsz seq mv v ⟨pn, pf, pwt, pwl, nt, nl, lim, ps⟩
  have k27 := (hB1.cell 27).trans kf.wt
  have k28 := (hB1.cell 28).trans kf.wl
  have k29 := (hB1.cell 29).trans kf.nt
  have k30 := (hB1.cell 30).trans kf.nl
  have f29 := hB1.froz 29
  have f30 := hB1.froz 30
  have kl := hB1.lt
  have hmd := hB1.drew
  unfold P.poolL at hmd hB1
  clear kf
  repeat ((first | refine wpSegs_soft ?_ | refine wpSegs_pure ?_ | refine wpSegs_here ?_); (repeat (first | go_big_quiet_step (fail) | quiet_step (fail))); refine wpQuiet_nil ?_)
  refine wpSegs_hard ?_
  go_wp2_with (refine wpList_load_any 31 _ rfl rfl _ 0 rfl cs _ (Blk.pre hB1) Try.underlying31 rfl (by rw [hsz]; kernel_rfl) ?_)
  repeat ((first | refine wpSegs_soft ?_ | refine wpSegs_pure ?_ | refine wpSegs_here ?_); (repeat (first | go_big_quiet_step (fail) | quiet_step (fail))); refine wpQuiet_nil ?_)
  refine wpSegs_hard ?_
  go_wp2_with fail
  refine (HA.out _ _ _ _).mono ?_
  rintro e w5 ⟨rfl, hf⟩
  clear hB1 k27 k28 k29 k30 f29 f30 kl hmd
  have HS := Lib.hid (HS.out.fr0 hf); clear hf
  have hB1 := HS.out.blk 1 rfl
  have kf := P.pf hsz seq mv v ⟨pn, pf, pwt, pwl, nt, nl, lim, ps⟩
  have k27 := (hB1.cell 27).trans kf.wt
  have k28 := (hB1.cell 28).trans kf.wl
  have k29 := (hB1.cell 29).trans kf.nt
  have k30 := (hB1.cell 30).trans kf.nl
  have f29 := hB1.froz 29
  have f30 := hB1.froz 30
  have kl := hB1.lt
  have hmd := hB1.drew
  unfold P.poolL at hmd hB1
  clear kf
  go_wp2_with fail
  repeat ((first | refine wpSegs_soft ?_ | refine wpSegs_pure ?_ | refine wpSegs_here ?_); (repeat (first | go_big_quiet_step (fail) | quiet_step (fail))); refine wpQuiet_nil ?_)
  refine wpSegs_done ?_
  go_wp2_with fail
  refine bodyPost_ret (v := .tuple #[]) (by simp [results, Try.results41, go_sem]) rfl ?_
  exact ⟨rfl, HTL.out ▸ HS.out⟩
set_option maxRecDepth 100000 in
set_option maxHeartbeats 8000000 in
theorem pgive_yes {w0 w : World} {R : List Thing} (b k : Nat) (c : Cfg) (hok : Y.Ok c) (seq : Int) (mv v : Value) (p : P.St) (s : W.S) (bb : Int) (hnl : 0 ≤ p.nl ∧ p.nl ≤ limit c) (h0 : ¬ limit c ≤ p.nl) (h1 : at_ c 11 bb 0 ≠ -1) (hbb : 0 ≤ bb ∧ bb ≤ 1000) (hd : s.done.length ≤ 900000) (hS : Sep w0 w (sp c seq b k mv v p s R)) :
    Calls Try.prog 41 #[.pointer (some ⟨b, 0, none⟩), .pointer (some ⟨k, 0, none⟩), .int .i64 bb] w fun e w' => e = .returned (.tuple #[]) ∧ Sep w0 w' (sp c seq b k mv v { p with nl := p.nl + 1 } (P.putS (P.putS s (at_ c 11 bb 0) 2) (at_ c 15 p.nl 0) bb) R) := by
  have HLI := Lib.hid (fun w => limit_any w c hok)
  have hlm := limit_pos hok
  try unfold P.putS
  have hd2 := putS_done s (at_ c 11 bb 0) 2
  unfold P.putS at hd2
  have hsz : (mapCells c).length = 24 := rfl
  have HA := Lib.hid (fun w kind i k => at_any w c hok kind i k)
  have HC := Lib.hid (fun w => pcfg_any w c)
  have HFD := Lib.hid (fun w => cfgV_field2 c w)
  have HP := Lib.hid (fun (w' : World) (s : W.S) (R : List Thing) (hd : s.done.length ≤ 1000000) (hS : Sep w0 w' (setT k s :: R)) a v => put_sep (w0 := w0) (w := w') (R := R) (b := k) (s := s) hS hd a v)
  have ht8 := hok.t8
  have ht1 := hok.t1
  have hb1 := hok.b1
  have hb64 := hok.b64
  unfold sp mapV at *
  generalize hcf : cfgV c = cf at *
  clear hcf
  generalize mapCells c = cs at *
  obtain ⟨pn, pf, pwt, pwl, nt, nl, lim, ps⟩ := p
  dsimp only at *
  have HS := Lib.hid hS; clear hS
  generalize limit c = lk at *
  generalize hTL : setT k _ :: _ = TL
  have HTL := Lib.hid hTL; clear hTL
  have hB1 := HS.out.blk 1 rfl
  have kf := P.pf hsz seq mv v ⟨pn, pf, pwt, pwl, nt, nl, lim, ps⟩
  have k27 := (hB1.cell 27).trans kf.wt
  have k28 := (hB1.cell 28).trans kf.wl
  have k29 := (hB1.cell 29).trans kf.nt
  have k30 := (hB1.cell 30).trans kf.nl
  have f29 := hB1.froz 29
  have f30 := hB1.froz 30
  have kl := hB1.lt
  have hmd := hB1.drew
  unfold P.poolL at hmd hB1
  clear kf
  have hd : s.done.length ≤ 1000000 := by omega
  have d1 : decide (nl ≥ lk) = false := by simpa using h0
  go_enter Try.func41, Try.ntmps41
  go_wp2_with fail
  refine wp_region_fr [(1, [0, 1, 2, 3, 4, 5, 6, 7, 8]), (2, [9]), (0, [10, 11, 12, 13, 14, 16]), (3, [15]), (3, [17]), (0, [18, 19])] [] (by kernel_rfl) (by kernel_rfl) ?_
  simp only [theOps, nthOp, List.map_cons, List.map_nil, Array.getD_eq_getD_getElem?, List.getElem?_toArray, List.getElem?_cons_succ, List.getElem?_cons_zero, Option.getD_some]
  refine wpSegs_soft ?_
  iterate 8 (first | go_big_quiet_step (fail) | quiet_step (fail))
  refine wpQuiet_load_mid 31 _ b 0 cs _ rfl rfl rfl (rangeAt_pre hmd (by simp)) Try.underlying31 rfl (by rw [hsz]; kernel_rfl) ?_
  simp only [Act.put, List.setIfInBounds_toArray, List.set_cons_zero, List.set_cons_succ]
  repeat (first | go_big_quiet_step (fail) | quiet_step (fail))
  refine wpQuiet_nil ?_
  refine wpSegs_keep ?_
  go_wp2_with fail
  refine (HLI.out _).mono ?_
  rintro e w4 ⟨rfl, hf⟩
  have HF := Lib.hid hf
  have HS := Lib.hid (HS.out.drew.fr0 hf); clear hf
  go_wp2_with fail
  refine ⟨⟨⟨_, (by exact HF.out)⟩, rfl⟩, ?_⟩
  clear hB1 k27 k28 k29 k30 f29 f30 kl hmd
  have hB1 := HS.out.blk 1 rfl
  have kf := P.pf hsz seq mv v ⟨pn, pf, pwt, pwl, nt, nl, lim, ps⟩
  have k27 := (hB1.cell 27).trans kf.wt
  have k28 := (hB1.cell 28).trans kf.wl
  have k29 := (hB1.cell 29).trans kf.nt
  have k30 := (hB1.cell 30).trans kf.nl
  have f29 := hB1.froz 29
  have f30 := hB1.froz 30
  have kl := hB1.lt
  have hmd := hB1.drew
  unfold P.poolL at hmd hB1
  clear kf
  repeat ((first | refine wpSegs_soft ?_ | refine wpSegs_pure ?_ | refine wpSegs_here ?_); (repeat (first | go_big_quiet_step (fail) | quiet_step (fail))); refine wpQuiet_nil ?_)
  have d2 : (at_ c 11 bb 0 == -1) = false := by simpa using h1
  refine wpSegs_hard ?_
  go_wp2_with (refine wpList_load_any 31 _ rfl rfl _ 0 rfl cs _ (Blk.pre hB1) Try.underlying31 rfl (by rw [hsz]; kernel_rfl) ?_)
  repeat ((first | refine wpSegs_soft ?_ | refine wpSegs_pure ?_ | refine wpSegs_here ?_); (repeat (first | go_big_quiet_step (fail) | quiet_step (fail))); refine wpQuiet_nil ?_)
  refine wpSegs_hard ?_
  go_wp2_with fail
  refine (HA.out _ _ _ _).mono ?_
  rintro e w5 ⟨rfl, hf⟩
  clear hB1 k27 k28 k29 k30 f29 f30 kl hmd
  have HS := Lib.hid (HS.out.fr0 hf); clear hf
  have hB1 := HS.out.blk 1 rfl
  have kf := P.pf hsz seq mv v ⟨pn, pf, pwt, pwl, nt, nl, lim, ps⟩
  have k27 := (hB1.cell 27).trans kf.wt
  have k28 := (hB1.cell 28).trans kf.wl
  have k29 := (hB1.cell 29).trans kf.nt
  have k30 := (hB1.cell 30).trans kf.nl
  have f29 := hB1.froz 29
  have f30 := hB1.froz 30
  have kl := hB1.lt
  have hmd := hB1.drew
  unfold P.poolL at hmd hB1
  clear kf
  go_wp2_with fail
  repeat ((first | refine wpSegs_soft ?_ | refine wpSegs_pure ?_ | refine wpSegs_here ?_); (repeat (first | go_big_quiet_step (fail) | quiet_step (fail))); refine wpQuiet_nil ?_)
  refine wpSegs_done ?_
  have hwb : IntKind.u64.wrap bb = bb := by rw [IntKind.wrap_u64]; omega
  have hwn : IntKind.i64.wrap (nl + 1) = nl + 1 := wrap_i64_id _ (by omega) (by omega)
  have hd3 : (W.put s (at_ c 11 bb 0) 2).1.done.length ≤ 1000000 := by omega
  clear h0
  -- Life is told 2
  go_wp2_with (refine wpList_load_any 31 _ rfl rfl _ 0 rfl cs _ (Blk.pre hB1) Try.underlying31 rfl (by rw [hsz]; kernel_rfl) ?_)
  refine (HA.out _ _ _ _).mono ?_
  rintro e w2 ⟨rfl, hf⟩
  clear hB1 k27 k28 k29 k30 f29 f30 kl hmd
  have HS := Lib.hid (HS.out.fr0 hf); clear hf
  have hB1 := HS.out.blk 1 rfl
  have kf := P.pf hsz seq mv v ⟨pn, pf, pwt, pwl, nt, nl, lim, ps⟩
  have k27 := (hB1.cell 27).trans kf.wt
  have k28 := (hB1.cell 28).trans kf.wl
  have k29 := (hB1.cell 29).trans kf.nt
  have k30 := (hB1.cell 30).trans kf.nl
  have f29 := hB1.froz 29
  have f30 := hB1.froz 30
  have kl := hB1.lt
  have hmd := hB1.drew
  unfold P.poolL at hmd hB1
  clear kf
  go_wp2_with fail
  refine (HP.out _ _ _ hd HS.out _ _).mono ?_
  rintro e w3 ⟨rfl, h3⟩
  clear hB1 k27 k28 k29 k30 f29 f30 kl hmd
  have HS := Lib.hid h3; clear h3
  have hB1 := HS.out.blk 1 rfl
  have kf := P.pf hsz seq mv v ⟨pn, pf, pwt, pwl, nt, nl, lim, ps⟩
  have k27 := (hB1.cell 27).trans kf.wt
  have k28 := (hB1.cell 28).trans kf.wl
  have k29 := (hB1.cell 29).trans kf.nt
  have k30 := (hB1.cell 30).trans kf.nl
  have f29 := hB1.froz 29
  have f30 := hB1.froz 30
  have kl := hB1.lt
  have hmd := hB1.drew
  unfold P.poolL at hmd hB1
  clear kf
  go_wp2_with fail
  -- what Give asks is put
  refine wp_region_fr [(1, [1, 2, 3, 4, 5, 6, 7, 8, 9]), (0, [0, 11, 12]), (3, [10]), (3, [13])] [] (by kernel_rfl) (by kernel_rfl) ?_
  simp only [theOps, nthOp, List.map_cons, List.map_nil, Array.getD_eq_getD_getElem?, List.getElem?_toArray, List.getElem?_cons_succ, List.getElem?_cons_zero, Option.getD_some]
  refine wpSegs_soft ?_
  iterate 3 (first | go_big_quiet_step (fail) | quiet_step (fail))
  refine wpQuiet_load_mid 31 _ b 0 cs _ rfl rfl rfl (rangeAt_pre hmd (by simp)) Try.underlying31 rfl (by rw [hsz]; kernel_rfl) ?_
  simp only [Act.put, List.setIfInBounds_toArray, List.set_cons_zero, List.set_cons_succ]
  repeat (first | go_big_quiet_step (fail) | quiet_step (fail))
  refine wpQuiet_nil ?_
  repeat ((first | refine wpSegs_soft ?_ | refine wpSegs_pure ?_ | refine wpSegs_here ?_); (repeat (first | go_big_quiet_step (fail) | quiet_step (fail))); refine wpQuiet_nil ?_)
  refine wpSegs_hard ?_
  go_wp2_with fail
  refine (HA.out _ _ _ _).mono ?_
  rintro e w5 ⟨rfl, hf⟩
  clear hB1 k27 k28 k29 k30 f29 f30 kl hmd
  have HS := Lib.hid (HS.out.drew.fr0 hf); clear hf
  have hB1 := HS.out.blk 1 rfl
  have kf := P.pf hsz seq mv v ⟨pn, pf, pwt, pwl, nt, nl, lim, ps⟩
  have k27 := (hB1.cell 27).trans kf.wt
  have k28 := (hB1.cell 28).trans kf.wl
  have k29 := (hB1.cell 29).trans kf.nt
  have k30 := (hB1.cell 30).trans kf.nl
  have f29 := hB1.froz 29
  have f30 := hB1.froz 30
  have kl := hB1.lt
  have hmd := hB1.drew
  unfold P.poolL at hmd hB1
  clear kf
  go_wp2_with fail
  repeat ((first | refine wpSegs_soft ?_ | refine wpSegs_pure ?_ | refine wpSegs_here ?_); (repeat (first | go_big_quiet_step (fail) | quiet_step (fail))); refine wpQuiet_nil ?_)
  refine wpSegs_hard ?_
  go_wp2_with fail
  refine (HP.out _ _ _ hd3 HS.out _ _).mono ?_
  rintro e w6 ⟨rfl, h3⟩
  clear hB1 k27 k28 k29 k30 f29 f30 kl hmd
  have HS := Lib.hid h3; clear h3
  have hB1 := HS.out.blk 1 rfl
  have kf := P.pf hsz seq mv v ⟨pn, pf, pwt, pwl, nt, nl, lim, ps⟩
  have k27 := (hB1.cell 27).trans kf.wt
  have k28 := (hB1.cell 28).trans kf.wl
  have k29 := (hB1.cell 29).trans kf.nt
  have k30 := (hB1.cell 30).trans kf.nl
  have f29 := hB1.froz 29
  have f30 := hB1.froz 30
  have kl := hB1.lt
  have hmd := hB1.drew
  unfold P.poolL at hmd hB1
  clear kf
  go_wp2_with fail
  repeat ((first | refine wpSegs_soft ?_ | refine wpSegs_pure ?_ | refine wpSegs_here ?_); (repeat (first | go_big_quiet_step (fail) | quiet_step (fail))); refine wpQuiet_nil ?_)
  refine wpSegs_done ?_
  go_wp2_with fail
  go_end0
  have hS2 := HS.out.set 1 rfl 30 (.int .i64 (nl + 1))
  simp only [List.set_cons_zero, List.set_cons_succ, P.poolL_nl hsz] at hS2
  exact ⟨rfl, HTL.out ▸ hS2⟩
theorem at11_is {c : Cfg} {bb : Int} (hok : Y.Ok c) (h : at_ c 11 bb 0 ≠ -1) : 0 ≤ bb ∧ bb < c.b := by
  by_cases hi : Is c 11 bb 0
  · have h2 : bb < cnt c 11 := hi.2.1
    exact ⟨hi.1, by simpa [cnt] using h2⟩
  · exact absurd (if_neg hi) h
theorem pgive_of {w0 w : World} {R : List Thing} (b k : Nat) (c : Cfg) (hok : Y.Ok c) (seq : Int) (mv v : Value) (p : P.St) (s : W.S) (bb : Int) (hnl : 0 ≤ p.nl ∧ p.nl ≤ limit c) (hd : s.done.length ≤ 900000) (hS : Sep w0 w (sp c seq b k mv v p s R)) :
    Calls Try.prog 41 #[.pointer (some ⟨b, 0, none⟩), .pointer (some ⟨k, 0, none⟩), .int .i64 bb] w fun e w' => e = .returned (.tuple #[]) ∧ Sep w0 w' (sp c seq b k mv v (P.give c bb p s).1 (P.give c bb p s).2 R) := by
  unfold P.give
  by_cases h : limit c ≤ p.nl
  · rw [if_pos (.inl h)]; exact pgive_full b k c hok seq mv v p s bb hnl h hd hS
  by_cases h1 : at_ c 11 bb 0 = -1
  · rw [if_pos (.inr h1)]; exact pgive_no b k c hok seq mv v p s bb hnl h h1 hd hS
  have h2 := at11_is hok h1
  have hb64 := hok.b64
  rw [if_neg (fun hh => hh.elim h h1)]; exact pgive_yes b k c hok seq mv v p s bb hnl h h1 (by omega) hd hS
end Go.Proofs.Ytccioehckfdjdaa
end

/- The walk of pool's End: over a set, and the state's block. -/
section
set_option linter.unusedSimpArgs false
set_option linter.unusedVariables false
namespace Go.Proofs.Ytccioehckfdjdaa
open Go.RowKit Go.Tum Go.Tum.Y
set_option maxRecDepth 100000 in
set_option maxHeartbeats 8000000 in
theorem pend_no {w0 w : World} {R : List Thing} (b k : Nat) (c : Cfg) (hok : Y.Ok c) (seq : Int) (mv v : Value) (p : P.St) (s : W.S) (hnt : 0 ≤ p.nt ∧ p.nt ≤ c.b) (hnl : 0 ≤ p.nl ∧ p.nl ≤ limit c) (h0 : p.nt = p.wt) (h1 : p.nl = p.wl) (hd : s.done.length ≤ 900000) (hS : Sep w0 w (sp c seq b k mv v p s R)) :
    Calls Try.prog 45 #[.pointer (some ⟨b, 0, none⟩), .pointer (some ⟨k, 0, none⟩)] w fun e w' => e = .returned (.tuple #[]) ∧ Sep w0 w' (sp c seq b k mv v p (s) R) := by
  have hlm := limit_pos hok
  try unfold P.putS
  have hd2 := putS_done s (at_ c 12 0 0) p.nt
  unfold P.putS at hd2
  have hsz : (mapCells c).length = 24 := rfl
  have HA := Lib.hid (fun w kind i k => at_any w c hok kind i k)
  have HC := Lib.hid (fun w => pcfg_any w c)
  have HFD := Lib.hid (fun w => cfgV_field2 c w)
  have HP := Lib.hid (fun (w' : World) (s : W.S) (R : List Thing) (hd : s.done.length ≤ 1000000) (hS : Sep w0 w' (setT k s :: R)) a v => put_sep (w0 := w0) (w := w') (R := R) (b := k) (s := s) hS hd a v)
  have ht8 := hok.t8
  have ht1 := hok.t1
  have hb1 := hok.b1
  have hb64 := hok.b64
  unfold sp mapV at *
  generalize hcf : cfgV c = cf at *
  clear hcf
  generalize mapCells c = cs at *
  obtain ⟨pn, pf, pwt, pwl, nt, nl, lim, ps⟩ := p
  dsimp only at *
  have HS := Lib.hid hS; clear hS
  generalize limit c = lk at *
  generalize hTL : setT k _ :: _ = TL
  have HTL := Lib.hid hTL; clear hTL
  have hB1 := HS.out.blk 1 rfl
  have kf := P.pf hsz seq mv v ⟨pn, pf, pwt, pwl, nt, nl, lim, ps⟩
  have k27 := (hB1.cell 27).trans kf.wt
  have k28 := (hB1.cell 28).trans kf.wl
  have k29 := (hB1.cell 29).trans kf.nt
  have k30 := (hB1.cell 30).trans kf.nl
  have f29 := hB1.froz 29
  have f30 := hB1.froz 30
  have kl := hB1.lt
  have hmd := hB1.drew
  unfold P.poolL at hmd hB1
  clear kf
  have hd : s.done.length ≤ 1000000 := by omega
  have hd3 : (W.put s (at_ c 12 0 0) nt).1.done.length ≤ 1000000 := by omega
  have hwb : IntKind.u64.wrap nt = nt := by rw [IntKind.wrap_u64]; omega
  have hwl : IntKind.u64.wrap nl = nl := by rw [IntKind.wrap_u64]; omega
  have d1 : (nt != pwt) = false := by simpa using h0
  have d2 : (nl != pwl) = false := by simpa using h1
  go_enter Try.func45, Try.ntmps45
  go_wp2_with fail
  refine wp_region_fr [(1, [0, 1, 2, 3, 4, 5, 6, 7, 8, 9, 10])] [] (by kernel_rfl) (by kernel_rfl) ?_
  simp only [theOps, nthOp, List.map_cons, List.map_nil, Array.getD_eq_getD_getElem?, List.getElem?_toArray, List.getElem?_cons_succ, List.getElem?_cons_zero, Option.getD_some]
  repeat ((first | refine wpSegs_soft ?_ | refine wpSegs_pure ?_ | refine wpSegs_here ?_); (repeat (first | go_big_quiet_step (fail) | quiet_step (fail))); refine wpQuiet_nil ?_)
  refine wpSegs_done ?_
  clear hB1 k27 k28 k29 k30 f29 f30 kl hmd
  have HS := Lib.hid HS.out.drew
  have hB1 := HS.out.blk 1 rfl
  have kf := P.pf hsz seq mv v ⟨pn, pf, pwt, pwl, nt, nl, lim, ps⟩
  have k27 := (hB1.cell 27).trans kf.wt
  have k28 := (hB1.cell 28).trans kf.wl
  have k29 := (hB1.cell 29).trans kf.nt
  have k30 := (hB1.cell 30).trans kf.nl
  have f29 := hB1.froz 29
  have f30 := hB1.froz 30
  have kl := hB1.lt
  have hmd := hB1.drew
  unfold P.poolL at hmd hB1
  clear kf
  go_wp2_with fail
  refine wp_region_fr [(1, [0, 1, 2, 3, 4, 5, 6, 7, 8, 9, 10])] [] (by kernel_rfl) (by kernel_rfl) ?_
  simp only [theOps, nthOp, List.map_cons, List.map_nil, Array.getD_eq_getD_getElem?, List.getElem?_toArray, List.getElem?_cons_succ, List.getElem?_cons_zero, Option.getD_some]
  repeat ((first | refine wpSegs_soft ?_ | refine wpSegs_pure ?_ | refine wpSegs_here ?_); (repeat (first | go_big_quiet_step (fail) | quiet_step (fail))); refine wpQuiet_nil ?_)
  refine wpSegs_done ?_
  clear hB1 k27 k28 k29 k30 f29 f30 kl hmd
  have HS := Lib.hid HS.out.drew
  have hB1 := HS.out.blk 1 rfl
  have kf := P.pf hsz seq mv v ⟨pn, pf, pwt, pwl, nt, nl, lim, ps⟩
  have k27 := (hB1.cell 27).trans kf.wt
  have k28 := (hB1.cell 28).trans kf.wl
  have k29 := (hB1.cell 29).trans kf.nt
  have k30 := (hB1.cell 30).trans kf.nl
  have f29 := hB1.froz 29
  have f30 := hB1.froz 30
  have kl := hB1.lt
  have hmd := hB1.drew
  unfold P.poolL at hmd hB1
  clear kf
  go_wp2_with fail
  go_end0
  exact ⟨rfl, HTL.out ▸ HS.out⟩
set_option maxRecDepth 100000 in
set_option maxHeartbeats 8000000 in
theorem pend_a {w0 w : World} {R : List Thing} (b k : Nat) (c : Cfg) (hok : Y.Ok c) (seq : Int) (mv v : Value) (p : P.St) (s : W.S) (hnt : 0 ≤ p.nt ∧ p.nt ≤ c.b) (hnl : 0 ≤ p.nl ∧ p.nl ≤ limit c) (h0 : p.nt ≠ p.wt) (h1 : p.nl = p.wl) (hd : s.done.length ≤ 900000) (hS : Sep w0 w (sp c seq b k mv v p s R)) :
    Calls Try.prog 45 #[.pointer (some ⟨b, 0, none⟩), .pointer (some ⟨k, 0, none⟩)] w fun e w' => e = .returned (.tuple #[]) ∧ Sep w0 w' (sp c seq b k mv v p (P.putS s (at_ c 12 0 0) p.nt) R) := by
  have hlm := limit_pos hok
  try unfold P.putS
  have hd2 := putS_done s (at_ c 12 0 0) p.nt
  unfold P.putS at hd2
  have hsz : (mapCells c).length = 24 := rfl
  have HA := Lib.hid (fun w kind i k => at_any w c hok kind i k)
  have HC := Lib.hid (fun w => pcfg_any w c)
  have HFD := Lib.hid (fun w => cfgV_field2 c w)
  have HP := Lib.hid (fun (w' : World) (s : W.S) (R : List Thing) (hd : s.done.length ≤ 1000000) (hS : Sep w0 w' (setT k s :: R)) a v => put_sep (w0 := w0) (w := w') (R := R) (b := k) (s := s) hS hd a v)
  have ht8 := hok.t8
  have ht1 := hok.t1
  have hb1 := hok.b1
  have hb64 := hok.b64
  unfold sp mapV at *
  generalize hcf : cfgV c = cf at *
  clear hcf
  generalize mapCells c = cs at *
  obtain ⟨pn, pf, pwt, pwl, nt, nl, lim, ps⟩ := p
  dsimp only at *
  have HS := Lib.hid hS; clear hS
  generalize limit c = lk at *
  generalize hTL : setT k _ :: _ = TL
  have HTL := Lib.hid hTL; clear hTL
  have hB1 := HS.out.blk 1 rfl
  have kf := P.pf hsz seq mv v ⟨pn, pf, pwt, pwl, nt, nl, lim, ps⟩
  have k27 := (hB1.cell 27).trans kf.wt
  have k28 := (hB1.cell 28).trans kf.wl
  have k29 := (hB1.cell 29).trans kf.nt
  have k30 := (hB1.cell 30).trans kf.nl
  have f29 := hB1.froz 29
  have f30 := hB1.froz 30
  have kl := hB1.lt
  have hmd := hB1.drew
  unfold P.poolL at hmd hB1
  clear kf
  have hd : s.done.length ≤ 1000000 := by omega
  have hd3 : (W.put s (at_ c 12 0 0) nt).1.done.length ≤ 1000000 := by omega
  have hwb : IntKind.u64.wrap nt = nt := by rw [IntKind.wrap_u64]; omega
  have hwl : IntKind.u64.wrap nl = nl := by rw [IntKind.wrap_u64]; omega
  have d1 : (nt != pwt) = true := by simpa using h0
  have d2 : (nl != pwl) = false := by simpa using h1
  go_enter Try.func45, Try.ntmps45
  go_wp2_with fail
  refine wp_region_fr [(1, [0, 1, 2, 3, 4, 5, 6, 7, 8, 9, 10])] [] (by kernel_rfl) (by kernel_rfl) ?_
  simp only [theOps, nthOp, List.map_cons, List.map_nil, Array.getD_eq_getD_getElem?, List.getElem?_toArray, List.getElem?_cons_succ, List.getElem?_cons_zero, Option.getD_some]
  repeat ((first | refine wpSegs_soft ?_ | refine wpSegs_pure ?_ | refine wpSegs_here ?_); (repeat (first | go_big_quiet_step (fail) | quiet_step (fail))); refine wpQuiet_nil ?_)
  refine wpSegs_done ?_
  clear hB1 k27 k28 k29 k30 f29 f30 kl hmd
  have HS := Lib.hid HS.out.drew
  have hB1 := HS.out.blk 1 rfl
  have kf := P.pf hsz seq mv v ⟨pn, pf, pwt, pwl, nt, nl, lim, ps⟩
  have k27 := (hB1.cell 27).trans kf.wt
  have k28 := (hB1.cell 28).trans kf.wl
  have k29 := (hB1.cell 29).trans kf.nt
  have k30 := (hB1.cell 30).trans kf.nl
  have f29 := hB1.froz 29
  have f30 := hB1.froz 30
  have kl := hB1.lt
  have hmd := hB1.drew
  unfold P.poolL at hmd hB1
  clear kf
  go_wp2_with fail
  refine wp_region_fr [(1, [0, 1, 2, 3, 4, 6, 7, 8, 9, 10, 11]), (2, [5]), (3, [12])] [] (by kernel_rfl) (by kernel_rfl) ?_
  simp only [theOps, nthOp, List.map_cons, List.map_nil, Array.getD_eq_getD_getElem?, List.getElem?_toArray, List.getElem?_cons_succ, List.getElem?_cons_zero, Option.getD_some]
  refine wpSegs_soft ?_
  iterate 4 (first | go_big_quiet_step (fail) | quiet_step (fail))
  refine wpQuiet_load_mid 31 _ b 0 cs _ rfl rfl rfl (rangeAt_pre hmd (by simp)) Try.underlying31 rfl (by rw [hsz]; kernel_rfl) ?_
  simp only [Act.put, List.setIfInBounds_toArray, List.set_cons_zero, List.set_cons_succ]
  repeat (first | go_big_quiet_step (fail) | quiet_step (fail))
  refine wpQuiet_nil ?_
  refine wpSegs_keep ?_
  go_wp2_with fail
  refine (HA.out _ _ _ _).mono ?_
  rintro e w4 ⟨rfl, hf⟩
  have HF := Lib.hid hf
  have HS := Lib.hid (HS.out.drew.fr0 hf); clear hf
  go_wp2_with fail
  refine ⟨⟨⟨_, (by exact HF.out)⟩, rfl⟩, ?_⟩
  clear hB1 k27 k28 k29 k30 f29 f30 kl hmd
  have hB1 := HS.out.blk 1 rfl
  have kf := P.pf hsz seq mv v ⟨pn, pf, pwt, pwl, nt, nl, lim, ps⟩
  have k27 := (hB1.cell 27).trans kf.wt
  have k28 := (hB1.cell 28).trans kf.wl
  have k29 := (hB1.cell 29).trans kf.nt
  have k30 := (hB1.cell 30).trans kf.nl
  have f29 := hB1.froz 29
  have f30 := hB1.froz 30
  have kl := hB1.lt
  have hmd := hB1.drew
  unfold P.poolL at hmd hB1
  clear kf
  repeat ((first | refine wpSegs_soft ?_ | refine wpSegs_pure ?_ | refine wpSegs_here ?_); (repeat (first | go_big_quiet_step (fail) | quiet_step (fail))); refine wpQuiet_nil ?_)
  refine wpSegs_hard ?_
  go_wp2_with fail
  refine (HP.out _ _ _ hd HS.out _ _).mono ?_
  rintro e w6 ⟨rfl, h3⟩
  clear hB1 k27 k28 k29 k30 f29 f30 kl hmd
  have HS := Lib.hid h3; clear h3
  have hB1 := HS.out.blk 1 rfl
  have kf := P.pf hsz seq mv v ⟨pn, pf, pwt, pwl, nt, nl, lim, ps⟩
  have k27 := (hB1.cell 27).trans kf.wt
  have k28 := (hB1.cell 28).trans kf.wl
  have k29 := (hB1.cell 29).trans kf.nt
  have k30 := (hB1.cell 30).trans kf.nl
  have f29 := hB1.froz 29
  have f30 := hB1.froz 30
  have kl := hB1.lt
  have hmd := hB1.drew
  unfold P.poolL at hmd hB1
  clear kf
  go_wp2_with fail
  repeat ((first | refine wpSegs_soft ?_ | refine wpSegs_pure ?_ | refine wpSegs_here ?_); (repeat (first | go_big_quiet_step (fail) | quiet_step (fail))); refine wpQuiet_nil ?_)
  refine wpSegs_done ?_
  go_wp2_with fail
  refine wp_region_fr [(1, [0, 1, 2, 3, 4, 5, 6, 7, 8, 9, 10])] [] (by kernel_rfl) (by kernel_rfl) ?_
  simp only [theOps, nthOp, List.map_cons, List.map_nil, Array.getD_eq_getD_getElem?, List.getElem?_toArray, List.getElem?_cons_succ, List.getElem?_cons_zero, Option.getD_some]
  repeat ((first | refine wpSegs_soft ?_ | refine wpSegs_pure ?_ | refine wpSegs_here ?_); (repeat (first | go_big_quiet_step (fail) | quiet_step (fail))); refine wpQuiet_nil ?_)
  refine wpSegs_done ?_
  clear hB1 k27 k28 k29 k30 f29 f30 kl hmd
  have HS := Lib.hid HS.out.drew
  have hB1 := HS.out.blk 1 rfl
  have kf := P.pf hsz seq mv v ⟨pn, pf, pwt, pwl, nt, nl, lim, ps⟩
  have k27 := (hB1.cell 27).trans kf.wt
  have k28 := (hB1.cell 28).trans kf.wl
  have k29 := (hB1.cell 29).trans kf.nt
  have k30 := (hB1.cell 30).trans kf.nl
  have f29 := hB1.froz 29
  have f30 := hB1.froz 30
  have kl := hB1.lt
  have hmd := hB1.drew
  unfold P.poolL at hmd hB1
  clear kf
  go_wp2_with fail
  go_end0
  exact ⟨rfl, HTL.out ▸ HS.out⟩
set_option maxRecDepth 100000 in
set_option maxHeartbeats 8000000 in
theorem pend_b {w0 w : World} {R : List Thing} (b k : Nat) (c : Cfg) (hok : Y.Ok c) (seq : Int) (mv v : Value) (p : P.St) (s : W.S) (hnt : 0 ≤ p.nt ∧ p.nt ≤ c.b) (hnl : 0 ≤ p.nl ∧ p.nl ≤ limit c) (h0 : p.nt = p.wt) (h1 : p.nl ≠ p.wl) (hd : s.done.length ≤ 900000) (hS : Sep w0 w (sp c seq b k mv v p s R)) :
    Calls Try.prog 45 #[.pointer (some ⟨b, 0, none⟩), .pointer (some ⟨k, 0, none⟩)] w fun e w' => e = .returned (.tuple #[]) ∧ Sep w0 w' (sp c seq b k mv v p (P.putS s (at_ c 14 0 0) p.nl) R) := by
  have hlm := limit_pos hok
  try unfold P.putS
  have hd2 := putS_done s (at_ c 12 0 0) p.nt
  unfold P.putS at hd2
  have hsz : (mapCells c).length = 24 := rfl
  have HA := Lib.hid (fun w kind i k => at_any w c hok kind i k)
  have HC := Lib.hid (fun w => pcfg_any w c)
  have HFD := Lib.hid (fun w => cfgV_field2 c w)
  have HP := Lib.hid (fun (w' : World) (s : W.S) (R : List Thing) (hd : s.done.length ≤ 1000000) (hS : Sep w0 w' (setT k s :: R)) a v => put_sep (w0 := w0) (w := w') (R := R) (b := k) (s := s) hS hd a v)
  have ht8 := hok.t8
  have ht1 := hok.t1
  have hb1 := hok.b1
  have hb64 := hok.b64
  unfold sp mapV at *
  generalize hcf : cfgV c = cf at *
  clear hcf
  generalize mapCells c = cs at *
  obtain ⟨pn, pf, pwt, pwl, nt, nl, lim, ps⟩ := p
  dsimp only at *
  have HS := Lib.hid hS; clear hS
  generalize limit c = lk at *
  generalize hTL : setT k _ :: _ = TL
  have HTL := Lib.hid hTL; clear hTL
  have hB1 := HS.out.blk 1 rfl
  have kf := P.pf hsz seq mv v ⟨pn, pf, pwt, pwl, nt, nl, lim, ps⟩
  have k27 := (hB1.cell 27).trans kf.wt
  have k28 := (hB1.cell 28).trans kf.wl
  have k29 := (hB1.cell 29).trans kf.nt
  have k30 := (hB1.cell 30).trans kf.nl
  have f29 := hB1.froz 29
  have f30 := hB1.froz 30
  have kl := hB1.lt
  have hmd := hB1.drew
  unfold P.poolL at hmd hB1
  clear kf
  have hd : s.done.length ≤ 1000000 := by omega
  have hd3 : (W.put s (at_ c 12 0 0) nt).1.done.length ≤ 1000000 := by omega
  have hwb : IntKind.u64.wrap nt = nt := by rw [IntKind.wrap_u64]; omega
  have hwl : IntKind.u64.wrap nl = nl := by rw [IntKind.wrap_u64]; omega
  have d1 : (nt != pwt) = false := by simpa using h0
  have d2 : (nl != pwl) = true := by simpa using h1
  go_enter Try.func45, Try.ntmps45
  go_wp2_with fail
  refine wp_region_fr [(1, [0, 1, 2, 3, 4, 5, 6, 7, 8, 9, 10])] [] (by kernel_rfl) (by kernel_rfl) ?_
  simp only [theOps, nthOp, List.map_cons, List.map_nil, Array.getD_eq_getD_getElem?, List.getElem?_toArray, List.getElem?_cons_succ, List.getElem?_cons_zero, Option.getD_some]
  repeat ((first | refine wpSegs_soft ?_ | refine wpSegs_pure ?_ | refine wpSegs_here ?_); (repeat (first | go_big_quiet_step (fail) | quiet_step (fail))); refine wpQuiet_nil ?_)
  refine wpSegs_done ?_
  clear hB1 k27 k28 k29 k30 f29 f30 kl hmd
  have HS := Lib.hid HS.out.drew
  have hB1 := HS.out.blk 1 rfl
  have kf := P.pf hsz seq mv v ⟨pn, pf, pwt, pwl, nt, nl, lim, ps⟩
  have k27 := (hB1.cell 27).trans kf.wt
  have k28 := (hB1.cell 28).trans kf.wl
  have k29 := (hB1.cell 29).trans kf.nt
  have k30 := (hB1.cell 30).trans kf.nl
  have f29 := hB1.froz 29
  have f30 := hB1.froz 30
  have kl := hB1.lt
  have hmd := hB1.drew
  unfold P.poolL at hmd hB1
  clear kf
  go_wp2_with fail
  refine wp_region_fr [(1, [0, 1, 2, 3, 4, 5, 6, 7, 8, 9, 10])] [] (by kernel_rfl) (by kernel_rfl) ?_
  simp only [theOps, nthOp, List.map_cons, List.map_nil, Array.getD_eq_getD_getElem?, List.getElem?_toArray, List.getElem?_cons_succ, List.getElem?_cons_zero, Option.getD_some]
  repeat ((first | refine wpSegs_soft ?_ | refine wpSegs_pure ?_ | refine wpSegs_here ?_); (repeat (first | go_big_quiet_step (fail) | quiet_step (fail))); refine wpQuiet_nil ?_)
  refine wpSegs_done ?_
  clear hB1 k27 k28 k29 k30 f29 f30 kl hmd
  have HS := Lib.hid HS.out.drew
  have hB1 := HS.out.blk 1 rfl
  have kf := P.pf hsz seq mv v ⟨pn, pf, pwt, pwl, nt, nl, lim, ps⟩
  have k27 := (hB1.cell 27).trans kf.wt
  have k28 := (hB1.cell 28).trans kf.wl
  have k29 := (hB1.cell 29).trans kf.nt
  have k30 := (hB1.cell 30).trans kf.nl
  have f29 := hB1.froz 29
  have f30 := hB1.froz 30
  have kl := hB1.lt
  have hmd := hB1.drew
  unfold P.poolL at hmd hB1
  clear kf
  go_wp2_with fail
  refine wp_region_fr [(1, [0, 1, 2, 3, 4, 6, 7, 8, 9, 10, 11]), (2, [5]), (3, [12])] [] (by kernel_rfl) (by kernel_rfl) ?_
  simp only [theOps, nthOp, List.map_cons, List.map_nil, Array.getD_eq_getD_getElem?, List.getElem?_toArray, List.getElem?_cons_succ, List.getElem?_cons_zero, Option.getD_some]
  refine wpSegs_soft ?_
  iterate 4 (first | go_big_quiet_step (fail) | quiet_step (fail))
  refine wpQuiet_load_mid 31 _ b 0 cs _ rfl rfl rfl (rangeAt_pre hmd (by simp)) Try.underlying31 rfl (by rw [hsz]; kernel_rfl) ?_
  simp only [Act.put, List.setIfInBounds_toArray, List.set_cons_zero, List.set_cons_succ]
  repeat (first | go_big_quiet_step (fail) | quiet_step (fail))
  refine wpQuiet_nil ?_
  refine wpSegs_keep ?_
  go_wp2_with fail
  refine (HA.out _ _ _ _).mono ?_
  rintro e w4 ⟨rfl, hf⟩
  have HF := Lib.hid hf
  have HS := Lib.hid (HS.out.drew.fr0 hf); clear hf
  go_wp2_with fail
  refine ⟨⟨⟨_, (by exact HF.out)⟩, rfl⟩, ?_⟩
  clear hB1 k27 k28 k29 k30 f29 f30 kl hmd
  have hB1 := HS.out.blk 1 rfl
  have kf := P.pf hsz seq mv v ⟨pn, pf, pwt, pwl, nt, nl, lim, ps⟩
  have k27 := (hB1.cell 27).trans kf.wt
  have k28 := (hB1.cell 28).trans kf.wl
  have k29 := (hB1.cell 29).trans kf.nt
  have k30 := (hB1.cell 30).trans kf.nl
  have f29 := hB1.froz 29
  have f30 := hB1.froz 30
  have kl := hB1.lt
  have hmd := hB1.drew
  unfold P.poolL at hmd hB1
  clear kf
  repeat ((first | refine wpSegs_soft ?_ | refine wpSegs_pure ?_ | refine wpSegs_here ?_); (repeat (first | go_big_quiet_step (fail) | quiet_step (fail))); refine wpQuiet_nil ?_)
  refine wpSegs_hard ?_
  go_wp2_with fail
  refine (HP.out _ _ _ hd HS.out _ _).mono ?_
  rintro e w6 ⟨rfl, h3⟩
  clear hB1 k27 k28 k29 k30 f29 f30 kl hmd
  have HS := Lib.hid h3; clear h3
  have hB1 := HS.out.blk 1 rfl
  have kf := P.pf hsz seq mv v ⟨pn, pf, pwt, pwl, nt, nl, lim, ps⟩
  have k27 := (hB1.cell 27).trans kf.wt
  have k28 := (hB1.cell 28).trans kf.wl
  have k29 := (hB1.cell 29).trans kf.nt
  have k30 := (hB1.cell 30).trans kf.nl
  have f29 := hB1.froz 29
  have f30 := hB1.froz 30
  have kl := hB1.lt
  have hmd := hB1.drew
  unfold P.poolL at hmd hB1
  clear kf
  go_wp2_with fail
  repeat ((first | refine wpSegs_soft ?_ | refine wpSegs_pure ?_ | refine wpSegs_here ?_); (repeat (first | go_big_quiet_step (fail) | quiet_step (fail))); refine wpQuiet_nil ?_)
  refine wpSegs_done ?_
  go_wp2_with fail
  go_end0
  exact ⟨rfl, HTL.out ▸ HS.out⟩
set_option maxRecDepth 100000 in
set_option maxHeartbeats 8000000 in
theorem pend_ab {w0 w : World} {R : List Thing} (b k : Nat) (c : Cfg) (hok : Y.Ok c) (seq : Int) (mv v : Value) (p : P.St) (s : W.S) (hnt : 0 ≤ p.nt ∧ p.nt ≤ c.b) (hnl : 0 ≤ p.nl ∧ p.nl ≤ limit c) (h0 : p.nt ≠ p.wt) (h1 : p.nl ≠ p.wl) (hd : s.done.length ≤ 900000) (hS : Sep w0 w (sp c seq b k mv v p s R)) :
    Calls Try.prog 45 #[.pointer (some ⟨b, 0, none⟩), .pointer (some ⟨k, 0, none⟩)] w fun e w' => e = .returned (.tuple #[]) ∧ Sep w0 w' (sp c seq b k mv v p (P.putS (P.putS s (at_ c 12 0 0) p.nt) (at_ c 14 0 0) p.nl) R) := by
  have hlm := limit_pos hok
  try unfold P.putS
  have hd2 := putS_done s (at_ c 12 0 0) p.nt
  unfold P.putS at hd2
  have hsz : (mapCells c).length = 24 := rfl
  have HA := Lib.hid (fun w kind i k => at_any w c hok kind i k)
  have HC := Lib.hid (fun w => pcfg_any w c)
  have HFD := Lib.hid (fun w => cfgV_field2 c w)
  have HP := Lib.hid (fun (w' : World) (s : W.S) (R : List Thing) (hd : s.done.length ≤ 1000000) (hS : Sep w0 w' (setT k s :: R)) a v => put_sep (w0 := w0) (w := w') (R := R) (b := k) (s := s) hS hd a v)
  have ht8 := hok.t8
  have ht1 := hok.t1
  have hb1 := hok.b1
  have hb64 := hok.b64
  unfold sp mapV at *
  generalize hcf : cfgV c = cf at *
  clear hcf
  generalize mapCells c = cs at *
  obtain ⟨pn, pf, pwt, pwl, nt, nl, lim, ps⟩ := p
  dsimp only at *
  have HS := Lib.hid hS; clear hS
  generalize limit c = lk at *
  generalize hTL : setT k _ :: _ = TL
  have HTL := Lib.hid hTL; clear hTL
  have hB1 := HS.out.blk 1 rfl
  have kf := P.pf hsz seq mv v ⟨pn, pf, pwt, pwl, nt, nl, lim, ps⟩
  have k27 := (hB1.cell 27).trans kf.wt
  have k28 := (hB1.cell 28).trans kf.wl
  have k29 := (hB1.cell 29).trans kf.nt
  have k30 := (hB1.cell 30).trans kf.nl
  have f29 := hB1.froz 29
  have f30 := hB1.froz 30
  have kl := hB1.lt
  have hmd := hB1.drew
  unfold P.poolL at hmd hB1
  clear kf
  have hd : s.done.length ≤ 1000000 := by omega
  have hd3 : (W.put s (at_ c 12 0 0) nt).1.done.length ≤ 1000000 := by omega
  have hwb : IntKind.u64.wrap nt = nt := by rw [IntKind.wrap_u64]; omega
  have hwl : IntKind.u64.wrap nl = nl := by rw [IntKind.wrap_u64]; omega
  have d1 : (nt != pwt) = true := by simpa using h0
  have d2 : (nl != pwl) = true := by simpa using h1
  go_enter Try.func45, Try.ntmps45
  go_wp2_with fail
  refine wp_region_fr [(1, [0, 1, 2, 3, 4, 5, 6, 7, 8, 9, 10])] [] (by kernel_rfl) (by kernel_rfl) ?_
  simp only [theOps, nthOp, List.map_cons, List.map_nil, Array.getD_eq_getD_getElem?, List.getElem?_toArray, List.getElem?_cons_succ, List.getElem?_cons_zero, Option.getD_some]
  repeat ((first | refine wpSegs_soft ?_ | refine wpSegs_pure ?_ | refine wpSegs_here ?_); (repeat (first | go_big_quiet_step (fail) | quiet_step (fail))); refine wpQuiet_nil ?_)
  refine wpSegs_done ?_
  clear hB1 k27 k28 k29 k30 f29 f30 kl hmd
  have HS := Lib.hid HS.out.drew
  have hB1 := HS.out.blk 1 rfl
  have kf := P.pf hsz seq mv v ⟨pn, pf, pwt, pwl, nt, nl, lim, ps⟩
  have k27 := (hB1.cell 27).trans kf.wt
  have k28 := (hB1.cell 28).trans kf.wl
  have k29 := (hB1.cell 29).trans kf.nt
  have k30 := (hB1.cell 30).trans kf.nl
  have f29 := hB1.froz 29
  have f30 := hB1.froz 30
  have kl := hB1.lt
  have hmd := hB1.drew
  unfold P.poolL at hmd hB1
  clear kf
  go_wp2_with fail
  refine wp_region_fr [(1, [0, 1, 2, 3, 4, 6, 7, 8, 9, 10, 11]), (2, [5]), (3, [12])] [] (by kernel_rfl) (by kernel_rfl) ?_
  simp only [theOps, nthOp, List.map_cons, List.map_nil, Array.getD_eq_getD_getElem?, List.getElem?_toArray, List.getElem?_cons_succ, List.getElem?_cons_zero, Option.getD_some]
  refine wpSegs_soft ?_
  iterate 4 (first | go_big_quiet_step (fail) | quiet_step (fail))
  refine wpQuiet_load_mid 31 _ b 0 cs _ rfl rfl rfl (rangeAt_pre hmd (by simp)) Try.underlying31 rfl (by rw [hsz]; kernel_rfl) ?_
  simp only [Act.put, List.setIfInBounds_toArray, List.set_cons_zero, List.set_cons_succ]
  repeat (first | go_big_quiet_step (fail) | quiet_step (fail))
  refine wpQuiet_nil ?_
  refine wpSegs_keep ?_
  go_wp2_with fail
  refine (HA.out _ _ _ _).mono ?_
  rintro e w4 ⟨rfl, hf⟩
  have HF := Lib.hid hf
  have HS := Lib.hid (HS.out.drew.fr0 hf); clear hf
  go_wp2_with fail
  refine ⟨⟨⟨_, (by exact HF.out)⟩, rfl⟩, ?_⟩
  clear hB1 k27 k28 k29 k30 f29 f30 kl hmd
  have hB1 := HS.out.blk 1 rfl
  have kf := P.pf hsz seq mv v ⟨pn, pf, pwt, pwl, nt, nl, lim, ps⟩
  have k27 := (hB1.cell 27).trans kf.wt
  have k28 := (hB1.cell 28).trans kf.wl
  have k29 := (hB1.cell 29).trans kf.nt
  have k30 := (hB1.cell 30).trans kf.nl
  have f29 := hB1.froz 29
  have f30 := hB1.froz 30
  have kl := hB1.lt
  have hmd := hB1.drew
  unfold P.poolL at hmd hB1
  clear kf
  repeat ((first | refine wpSegs_soft ?_ | refine wpSegs_pure ?_ | refine wpSegs_here ?_); (repeat (first | go_big_quiet_step (fail) | quiet_step (fail))); refine wpQuiet_nil ?_)
  refine wpSegs_hard ?_
  go_wp2_with fail
  refine (HP.out _ _ _ hd HS.out _ _).mono ?_
  rintro e w6 ⟨rfl, h3⟩
  clear hB1 k27 k28 k29 k30 f29 f30 kl hmd
  have HS := Lib.hid h3; clear h3
  have hB1 := HS.out.blk 1 rfl
  have kf := P.pf hsz seq mv v ⟨pn, pf, pwt, pwl, nt, nl, lim, ps⟩
  have k27 := (hB1.cell 27).trans kf.wt
  have k28 := (hB1.cell 28).trans kf.wl
  have k29 := (hB1.cell 29).trans kf.nt
  have k30 := (hB1.cell 30).trans kf.nl
  have f29 := hB1.froz 29
  have f30 := hB1.froz 30
  have kl := hB1.lt
  have hmd := hB1.drew
  unfold P.poolL at hmd hB1
  clear kf
  go_wp2_with fail
  repeat ((first | refine wpSegs_soft ?_ | refine wpSegs_pure ?_ | refine wpSegs_here ?_); (repeat (first | go_big_quiet_step (fail) | quiet_step (fail))); refine wpQuiet_nil ?_)
  refine wpSegs_done ?_
  go_wp2_with fail
  refine wp_region_fr [(1, [0, 1, 2, 3, 4, 5, 6, 7, 8, 9, 10])] [] (by kernel_rfl) (by kernel_rfl) ?_
  simp only [theOps, nthOp, List.map_cons, List.map_nil, Array.getD_eq_getD_getElem?, List.getElem?_toArray, List.getElem?_cons_succ, List.getElem?_cons_zero, Option.getD_some]
  repeat ((first | refine wpSegs_soft ?_ | refine wpSegs_pure ?_ | refine wpSegs_here ?_); (repeat (first | go_big_quiet_step (fail) | quiet_step (fail))); refine wpQuiet_nil ?_)
  refine wpSegs_done ?_
  clear hB1 k27 k28 k29 k30 f29 f30 kl hmd
  have HS := Lib.hid HS.out.drew
  have hB1 := HS.out.blk 1 rfl
  have kf := P.pf hsz seq mv v ⟨pn, pf, pwt, pwl, nt, nl, lim, ps⟩
  have k27 := (hB1.cell 27).trans kf.wt
  have k28 := (hB1.cell 28).trans kf.wl
  have k29 := (hB1.cell 29).trans kf.nt
  have k30 := (hB1.cell 30).trans kf.nl
  have f29 := hB1.froz 29
  have f30 := hB1.froz 30
  have kl := hB1.lt
  have hmd := hB1.drew
  unfold P.poolL at hmd hB1
  clear kf
  go_wp2_with fail
  refine wp_region_fr [(1, [0, 1, 2, 3, 4, 6, 7, 8, 9, 10, 11]), (2, [5]), (3, [12])] [] (by kernel_rfl) (by kernel_rfl) ?_
  simp only [theOps, nthOp, List.map_cons, List.map_nil, Array.getD_eq_getD_getElem?, List.getElem?_toArray, List.getElem?_cons_succ, List.getElem?_cons_zero, Option.getD_some]
  refine wpSegs_soft ?_
  iterate 4 (first | go_big_quiet_step (fail) | quiet_step (fail))
  refine wpQuiet_load_mid 31 _ b 0 cs _ rfl rfl rfl (rangeAt_pre hmd (by simp)) Try.underlying31 rfl (by rw [hsz]; kernel_rfl) ?_
  simp only [Act.put, List.setIfInBounds_toArray, List.set_cons_zero, List.set_cons_succ]
  repeat (first | go_big_quiet_step (fail) | quiet_step (fail))
  refine wpQuiet_nil ?_
  refine wpSegs_keep ?_
  go_wp2_with fail
  refine (HA.out _ _ _ _).mono ?_
  rintro e w4 ⟨rfl, hf⟩
  have HF := Lib.hid hf
  have HS := Lib.hid (HS.out.drew.fr0 hf); clear hf
  go_wp2_with fail
  refine ⟨⟨⟨_, (by exact HF.out)⟩, rfl⟩, ?_⟩
  clear hB1 k27 k28 k29 k30 f29 f30 kl hmd
  have hB1 := HS.out.blk 1 rfl
  have kf := P.pf hsz seq mv v ⟨pn, pf, pwt, pwl, nt, nl, lim, ps⟩
  have k27 := (hB1.cell 27).trans kf.wt
  have k28 := (hB1.cell 28).trans kf.wl
  have k29 := (hB1.cell 29).trans kf.nt
  have k30 := (hB1.cell 30).trans kf.nl
  have f29 := hB1.froz 29
  have f30 := hB1.froz 30
  have kl := hB1.lt
  have hmd := hB1.drew
  unfold P.poolL at hmd hB1
  clear kf
  repeat ((first | refine wpSegs_soft ?_ | refine wpSegs_pure ?_ | refine wpSegs_here ?_); (repeat (first | go_big_quiet_step (fail) | quiet_step (fail))); refine wpQuiet_nil ?_)
  refine wpSegs_hard ?_
  go_wp2_with fail
  refine (HP.out _ _ _ hd3 HS.out _ _).mono ?_
  rintro e w6 ⟨rfl, h3⟩
  clear hB1 k27 k28 k29 k30 f29 f30 kl hmd
  have HS := Lib.hid h3; clear h3
  have hB1 := HS.out.blk 1 rfl
  have kf := P.pf hsz seq mv v ⟨pn, pf, pwt, pwl, nt, nl, lim, ps⟩
  have k27 := (hB1.cell 27).trans kf.wt
  have k28 := (hB1.cell 28).trans kf.wl
  have k29 := (hB1.cell 29).trans kf.nt
  have k30 := (hB1.cell 30).trans kf.nl
  have f29 := hB1.froz 29
  have f30 := hB1.froz 30
  have kl := hB1.lt
  have hmd := hB1.drew
  unfold P.poolL at hmd hB1
  clear kf
  go_wp2_with fail
  repeat ((first | refine wpSegs_soft ?_ | refine wpSegs_pure ?_ | refine wpSegs_here ?_); (repeat (first | go_big_quiet_step (fail) | quiet_step (fail))); refine wpQuiet_nil ?_)
  refine wpSegs_done ?_
  go_wp2_with fail
  go_end0
  exact ⟨rfl, HTL.out ▸ HS.out⟩
theorem pend_of {w0 w : World} {R : List Thing} (b k : Nat) (c : Cfg) (hok : Y.Ok c) (seq : Int) (mv v : Value) (p : P.St) (s : W.S) (hnt : 0 ≤ p.nt ∧ p.nt ≤ c.b) (hnl : 0 ≤ p.nl ∧ p.nl ≤ limit c) (hd : s.done.length ≤ 900000) (hS : Sep w0 w (sp c seq b k mv v p s R)) :
    Calls Try.prog 45 #[.pointer (some ⟨b, 0, none⟩), .pointer (some ⟨k, 0, none⟩)] w fun e w' => e = .returned (.tuple #[]) ∧ Sep w0 w' (sp c seq b k mv v p (P.end_ c p s) R) := by
  unfold P.end_
  dsimp only
  by_cases h : p.nt = p.wt <;> by_cases h1 : p.nl = p.wl
  · rw [if_neg (Classical.not_not.2 h1), if_neg (Classical.not_not.2 h)]; exact pend_no b k c hok seq mv v p s hnt hnl h h1 hd hS
  · rw [if_pos h1, if_neg (Classical.not_not.2 h)]; exact pend_b b k c hok seq mv v p s hnt hnl h h1 hd hS
  · rw [if_neg (Classical.not_not.2 h1), if_pos h]; exact pend_a b k c hok seq mv v p s hnt hnl h h1 hd hS
  · rw [if_pos h1, if_pos h]; exact pend_ab b k c hok seq mv v p s hnt hnl h h1 hd hS
end Go.Proofs.Ytccioehckfdjdaa
end

/- The walk of pool's Take: over a set, and the state's block. -/
section
set_option linter.unusedSimpArgs false
set_option linter.unusedVariables false
namespace Go.Proofs.Ytccioehckfdjdaa
open Go.RowKit Go.Tum Go.Tum.Y
theorem wipe_done (c : Cfg) (b : Int) (s : W.S) : ∀ k, (P.wipe c b k s).done.length ≤ s.done.length + k
  | 0 => Nat.le_refl _
  | k + 1 => by
    have h1 := wipe_done c b s k
    have h2 := putS_done (P.wipe c b k s) (at_ c 16 b k) 0
    unfold P.wipe
    omega
set_option maxRecDepth 100000 in
set_option maxHeartbeats 8000000 in
theorem ptake_none {w0 w : World} {R : List Thing} (b k : Nat) (c : Cfg) (hok : Y.Ok c) (seq : Int) (mv v : Value) (p : P.St) (s : W.S) (bb : Int) (hnt : 0 ≤ p.nt ∧ p.nt ≤ c.b) (h0 : p.nt = 0) (hd : s.done.length ≤ 900000) (hS : Sep w0 w (sp c seq b k mv v p s R)) :
    Calls Try.prog 40 #[.pointer (some ⟨b, 0, none⟩), .pointer (some ⟨k, 0, none⟩), .int .i64 bb] w fun e w' => e = .returned (.tuple #[]) ∧ Sep w0 w' (sp c seq b k mv v p s R) := by
  try unfold P.putS
  have hd2 := putS_done s (at_ c 11 bb 0) 1
  have HWI := Lib.hid (wipe_done c bb (W.put s (at_ c 11 bb 0) 1).1)
  unfold P.putS at hd2
  have hsz : (mapCells c).length = 24 := rfl
  have HA := Lib.hid (fun w kind i k => at_any w c hok kind i k)
  have HC := Lib.hid (fun w => pcfg_any w c)
  have HFD := Lib.hid (fun w => cfgV_field2 c w)
  have HP := Lib.hid (fun (w' : World) (s : W.S) (R : List Thing) (hd : s.done.length ≤ 1000000) (hS : Sep w0 w' (setT k s :: R)) a v => put_sep (w0 := w0) (w := w') (R := R) (b := k) (s := s) hS hd a v)
  have ht8 := hok.t8
  have ht1 := hok.t1
  have hb1 := hok.b1
  have hb64 := hok.b64
  unfold sp mapV at *
  generalize hcf : cfgV c = cf at *
  clear hcf
  generalize mapCells c = cs at *
  obtain ⟨pn, pf, pwt, pwl, nt, nl, lim, ps⟩ := p
  dsimp only at *
  have HS := Lib.hid hS; clear hS
  generalize hTL : setT k _ :: _ = TL
  have HTL := Lib.hid hTL; clear hTL
  have hB1 := HS.out.blk 1 rfl
  have kf := P.pf hsz seq mv v ⟨pn, pf, pwt, pwl, nt, nl, lim, ps⟩
  have k27 := (hB1.cell 27).trans kf.wt
  have k28 := (hB1.cell 28).trans kf.wl
  have k29 := (hB1.cell 29).trans kf.nt
  have k30 := (hB1.cell 30).trans kf.nl
  have f29 := hB1.froz 29
  have f30 := hB1.froz 30
  have kl := hB1.lt
  have hmd := hB1.drew
  unfold P.poolL at hmd hB1
  clear kf
  have hd : s.done.length ≤ 1000000 := by omega
  have d1 : (nt == 0) = true := by simpa using h0
  go_enter Try.func40, Try.ntmps40
  clear h0
  go_wp2_with fail
  refine bodyPost_ret (v := .tuple #[]) (by simp [results, Try.results40, go_sem]) rfl ?_
  exact ⟨rfl, HTL.out ▸ HS.out⟩
set_option maxRecDepth 100000 in
set_option maxHeartbeats 8000000 in
theorem ptake_no {w0 w : World} {R : List Thing} (b k : Nat) (c : Cfg) (hok : Y.Ok c) (seq : Int) (mv v : Value) (p : P.St) (s : W.S) (bb : Int) (hnt : 0 ≤ p.nt ∧ p.nt ≤ c.b) (h0 : p.nt ≠ 0) (h1 : at_ c 11 bb 0 = -1) (hd : s.done.length ≤ 900000) (hS : Sep w0 w (sp c seq b k mv v p s R)) :
    Calls Try.prog 40 #[.pointer (some ⟨b, 0, none⟩), .pointer (some ⟨k, 0, none⟩), .int .i64 bb] w fun e w' => e = .returned (.tuple #[]) ∧ Sep w0 w' (sp c seq b k mv v p s R) := by
  try unfold P.putS
  have hd2 := putS_done s (at_ c 11 bb 0) 1
  have HWI := Lib.hid (wipe_done c bb (W.put s (at_ c 11 bb 0) 1).1)
  unfold P.putS at hd2
  have hsz : (mapCells c).length = 24 := rfl
  have HA := Lib.hid (fun w kind i k => at_any w c hok kind i k)
  have HC := Lib.hid (fun w => pcfg_any w c)
  have HFD := Lib.hid (fun w => cfgV_field2 c w)
  have HP := Lib.hid (fun (w' : World) (s : W.S) (R : List Thing) (hd : s.done.length ≤ 1000000) (hS : Sep w0 w' (setT k s :: R)) a v => put_sep (w0 := w0) (w := w') (R := R) (b := k) (s := s) hS hd a v)
  have ht8 := hok.t8
  have ht1 := hok.t1
  have hb1 := hok.b1
  have hb64 := hok.b64
  unfold sp mapV at *
  generalize hcf : cfgV c = cf at *
  clear hcf
  generalize mapCells c = cs at *
  obtain ⟨pn, pf, pwt, pwl, nt, nl, lim, ps⟩ := p
  dsimp only at *
  have HS := Lib.hid hS; clear hS
  generalize hTL : setT k _ :: _ = TL
  have HTL := Lib.hid hTL; clear hTL
  have hB1 := HS.out.blk 1 rfl
  have kf := P.pf hsz seq mv v ⟨pn, pf, pwt, pwl, nt, nl, lim, ps⟩
  have k27 := (hB1.cell 27).trans kf.wt
  have k28 := (hB1.cell 28).trans kf.wl
  have k29 := (hB1.cell 29).trans kf.nt
  have k30 := (hB1.cell 30).trans kf.nl
  have f29 := hB1.froz 29
  have f30 := hB1.froz 30
  have kl := hB1.lt
  have hmd := hB1.drew
  unfold P.poolL at hmd hB1
  clear kf
  have hd : s.done.length ≤ 1000000 := by omega
  have d1 : (nt == 0) = false := by simpa using h0
  go_enter Try.func40, Try.ntmps40
  go_wp2_with (refine wpList_load_any 31 _ rfl rfl _ 0 rfl cs _ (Blk.pre hB1) Try.underlying31 rfl (by rw [hsz]; kernel_rfl) ?_)
  refine (HA.out _ _ _ _).mono ?_
  rintro e w5 ⟨rfl, hf⟩
  clear hB1 k27 k28 k29 k30 f29 f30 kl hmd
  have HS := Lib.hid (HS.out.fr0 hf); clear hf
  have hB1 := HS.out.blk 1 rfl
  have kf := P.pf hsz seq mv v ⟨pn, pf, pwt, pwl, nt, nl, lim, ps⟩
  have k27 := (hB1.cell 27).trans kf.wt
  have k28 := (hB1.cell 28).trans kf.wl
  have k29 := (hB1.cell 29).trans kf.nt
  have k30 := (hB1.cell 30).trans kf.nl
  have f29 := hB1.froz 29
  have f30 := hB1.froz 30
  have kl := hB1.lt
  have hmd := hB1.drew
  unfold P.poolL at hmd hB1
  clear kf
  go_wp2_with fail
  refine bodyPost_ret (v := .tuple #[]) (by simp [results, Try.results40, go_sem]) rfl ?_
  exact ⟨rfl, HTL.out ▸ HS.out⟩
set_option maxRecDepth 100000 in
set_option maxHeartbeats 8000000 in
theorem ptake_yes {w0 w : World} {R : List Thing} (b k : Nat) (c : Cfg) (hok : Y.Ok c) (seq : Int) (mv v : Value) (p : P.St) (s : W.S) (bb : Int) (hnt : 0 ≤ p.nt ∧ p.nt ≤ c.b) (h0 : p.nt ≠ 0) (h1 : at_ c 11 bb 0 ≠ -1) (hd : s.done.length ≤ 900000) (hS : Sep w0 w (sp c seq b k mv v p s R)) :
    Calls Try.prog 40 #[.pointer (some ⟨b, 0, none⟩), .pointer (some ⟨k, 0, none⟩), .int .i64 bb] w fun e w' => e = .returned (.tuple #[]) ∧ Sep w0 w' (sp c seq b k mv v { p with nt := p.nt - 1 } (P.wipe c bb 8 (P.putS s (at_ c 11 bb 0) 1)) R) := by
  try unfold P.putS
  have hd2 := putS_done s (at_ c 11 bb 0) 1
  have HWI := Lib.hid (wipe_done c bb (W.put s (at_ c 11 bb 0) 1).1)
  unfold P.putS at hd2
  have hsz : (mapCells c).length = 24 := rfl
  have HA := Lib.hid (fun w kind i k => at_any w c hok kind i k)
  have HC := Lib.hid (fun w => pcfg_any w c)
  have HFD := Lib.hid (fun w => cfgV_field2 c w)
  have HP := Lib.hid (fun (w' : World) (s : W.S) (R : List Thing) (hd : s.done.length ≤ 1000000) (hS : Sep w0 w' (setT k s :: R)) a v => put_sep (w0 := w0) (w := w') (R := R) (b := k) (s := s) hS hd a v)
  have ht8 := hok.t8
  have ht1 := hok.t1
  have hb1 := hok.b1
  have hb64 := hok.b64
  unfold sp mapV at *
  generalize hcf : cfgV c = cf at *
  clear hcf
  generalize mapCells c = cs at *
  obtain ⟨pn, pf, pwt, pwl, nt, nl, lim, ps⟩ := p
  dsimp only at *
  have HS := Lib.hid hS; clear hS
  generalize hTL : setT k _ :: _ = TL
  have HTL := Lib.hid hTL; clear hTL
  have hB1 := HS.out.blk 1 rfl
  have kf := P.pf hsz seq mv v ⟨pn, pf, pwt, pwl, nt, nl, lim, ps⟩
  have k27 := (hB1.cell 27).trans kf.wt
  have k28 := (hB1.cell 28).trans kf.wl
  have k29 := (hB1.cell 29).trans kf.nt
  have k30 := (hB1.cell 30).trans kf.nl
  have f29 := hB1.froz 29
  have f30 := hB1.froz 30
  have kl := hB1.lt
  have hmd := hB1.drew
  unfold P.poolL at hmd hB1
  clear kf
  have hd : s.done.length ≤ 1000000 := by omega
  have d1 : (nt == 0) = false := by simpa using h0
  go_enter Try.func40, Try.ntmps40
  have d2 : (at_ c 11 bb 0 == -1) = false := by simpa using h1
  have hwn : IntKind.i64.wrap (nt - 1) = nt - 1 := wrap_i64_id _ (by omega) (by omega)
  go_wp2_with (refine wpList_load_any 31 _ rfl rfl _ 0 rfl cs _ (Blk.pre hB1) Try.underlying31 rfl (by rw [hsz]; kernel_rfl) ?_)
  refine (HA.out _ _ _ _).mono ?_
  rintro e w5 ⟨rfl, hf⟩
  clear hB1 k27 k28 k29 k30 f29 f30 kl hmd
  have HS := Lib.hid (HS.out.fr0 hf); clear hf
  have hB1 := HS.out.blk 1 rfl
  have kf := P.pf hsz seq mv v ⟨pn, pf, pwt, pwl, nt, nl, lim, ps⟩
  have k27 := (hB1.cell 27).trans kf.wt
  have k28 := (hB1.cell 28).trans kf.wl
  have k29 := (hB1.cell 29).trans kf.nt
  have k30 := (hB1.cell 30).trans kf.nl
  have f29 := hB1.froz 29
  have f30 := hB1.froz 30
  have kl := hB1.lt
  have hmd := hB1.drew
  unfold P.poolL at hmd hB1
  clear kf
  have hS2 := HS.out.set 1 rfl 29 (.int .i64 (nt - 1))
  simp only [List.set_cons_zero, List.set_cons_succ, P.poolL_nt hsz] at hS2
  have HS2 := Lib.hid hS2; clear hS2
  have hB2 := HS2.out.blk 1 rfl
  unfold P.poolL at hB2
  go_wp2_with (refine wpList_load_any 31 _ rfl rfl _ 0 rfl cs _ (Blk.pre hB2) Try.underlying31 rfl (by rw [hsz]; kernel_rfl) ?_)
  refine (HA.out _ _ _ _).mono ?_
  rintro e w2 ⟨rfl, hf⟩
  clear hB1 k27 k28 k29 k30 f29 f30 kl hmd
  have HS := Lib.hid (HS2.out.fr0 hf); clear hf hB2 HS2
  have hB1 := HS.out.blk 1 rfl
  have kf := P.pf hsz seq mv v ⟨pn, pf, pwt, pwl, nt - 1, nl, lim, ps⟩
  have k27 := (hB1.cell 27).trans kf.wt
  have k28 := (hB1.cell 28).trans kf.wl
  have k29 := (hB1.cell 29).trans kf.nt
  have k30 := (hB1.cell 30).trans kf.nl
  have f29 := hB1.froz 29
  have f30 := hB1.froz 30
  have kl := hB1.lt
  have hmd := hB1.drew
  unfold P.poolL at hmd hB1
  clear kf
  go_wp2_with fail
  refine (HP.out _ _ _ hd HS.out _ _).mono ?_
  rintro e w3 ⟨rfl, h3⟩
  clear hB1 k27 k28 k29 k30 f29 f30 kl hmd
  have HS := Lib.hid h3; clear h3
  go_wp2_with fail
  go_loopg [39] 8 (fun g vi wr => ∃ j : Nat, g + j = 8 ∧ vi = .int .i64 (j : Int) ∧ Sep w0 wr (setT k (P.wipe c bb j (W.put s (at_ c 11 bb 0) 1).1) :: blkT b 162 (P.poolL cs seq mv v ⟨pn, pf, pwt, pwl, nt - 1, nl, lim, ps⟩) :: R))
  case atStart => exact ⟨0, by omega, rfl, HS.out⟩
  case round =>
    clear HS
    obtain ⟨j, hgj, rfl, hS⟩ := hrel
    have HS := Lib.hid hS; clear hS
    by_cases hj : j < 8
    · have hji : (j : Int) < 8 := by omega
      have hdj := HWI.out j
      have hdj2 : (P.wipe c bb j (W.put s (at_ c 11 bb 0) 1).1).done.length ≤ 1000000 := by omega
      clear hdj
      have hB1 := HS.out.blk 1 rfl
      have kf := P.pf hsz seq mv v ⟨pn, pf, pwt, pwl, nt - 1, nl, lim, ps⟩
      have k27 := (hB1.cell 27).trans kf.wt
      have k28 := (hB1.cell 28).trans kf.wl
      have k29 := (hB1.cell 29).trans kf.nt
      have k30 := (hB1.cell 30).trans kf.nl
      have f29 := hB1.froz 29
      have f30 := hB1.froz 30
      have kl := hB1.lt
      have hmd := hB1.drew
      unfold P.poolL at hmd hB1
      clear kf
      go_wp2_with (refine wpList_load_any 31 _ rfl rfl _ 0 rfl cs _ (Blk.pre hB1) Try.underlying31 rfl (by rw [hsz]; kernel_rfl) ?_)
      refine (HA.out _ _ _ _).mono ?_
      rintro e w2 ⟨rfl, hf⟩
      clear hB1 k27 k28 k29 k30 f29 f30 kl hmd
      have HS := Lib.hid (HS.out.fr0 hf); clear hf
      go_wp2_with fail
      refine (HP.out _ _ _ hdj2 HS.out _ _).mono ?_
      rintro e w3 ⟨rfl, h3⟩
      have HS := Lib.hid h3; clear h3
      go_wp2_with fail
      go_roundg (8 - (j + 1))
      case measure => omega
      case rel => exact ⟨j + 1, by omega, by go_num, HS.out⟩
    · obtain rfl : j = 8 := by omega
      go_wp2_with fail
      go_end0
      exact ⟨rfl, HTL.out ▸ HS.out⟩
theorem ptake_of {w0 w : World} {R : List Thing} (b k : Nat) (c : Cfg) (hok : Y.Ok c) (seq : Int) (mv v : Value) (p : P.St) (s : W.S) (bb : Int) (hnt : 0 ≤ p.nt ∧ p.nt ≤ c.b) (hd : s.done.length ≤ 900000) (hS : Sep w0 w (sp c seq b k mv v p s R)) :
    Calls Try.prog 40 #[.pointer (some ⟨b, 0, none⟩), .pointer (some ⟨k, 0, none⟩), .int .i64 bb] w fun e w' => e = .returned (.tuple #[]) ∧ Sep w0 w' (sp c seq b k mv v (P.take c bb p s).1 (P.take c bb p s).2 R) := by
  unfold P.take
  by_cases h : p.nt = 0
  · rw [if_pos (.inl h)]; exact ptake_none b k c hok seq mv v p s bb hnt h hd hS
  by_cases h1 : at_ c 11 bb 0 = -1
  · rw [if_pos (.inr h1)]; exact ptake_no b k c hok seq mv v p s bb hnt h h1 hd hS
  rw [if_neg (fun hh => hh.elim h h1)]; dsimp only; exact ptake_yes b k c hok seq mv v p s bb hnt h h1 hd hS
end Go.Proofs.Ytccioehckfdjdaa
end
