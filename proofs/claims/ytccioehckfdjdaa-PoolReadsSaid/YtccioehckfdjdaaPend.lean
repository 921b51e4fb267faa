/- The walk of pool's End: over a set, and the state's block. -/
import Derived.Test.YtccioehckfdjdaaPgive
set_option linter.unusedSimpArgs false
set_option linter.unusedVariables false
namespace Go.Proofs.Ytccioehckfdjdaa
open Go.RowKit Go.Tum Go.Tum.Y
set_option maxRecDepth 100000 in
set_option maxHeartbeats 8000000 in
theorem pend_no {w0 w : World} {R : List Thing} (b k : Nat) (c : Cfg) (hok : Y.Ok c) (seq : Int) (mv v : Value) (p : P.St) (s : W.S) (hnt : 0 ≤ p.nt ∧ p.nt ≤ c.b) (hnl : 0 ≤ p.nl ∧ p.nl ≤ limit c) (h0 : p.nt = p.wt) (h1 : p.nl = p.wl) (hd : s.done.length ≤ 900000) (hS : Sep w0 w (sp c seq b k mv v p s R)) :
    Calls Try.prog 45 #[.pointer (some ⟨b, 0, none⟩), .pointer (some ⟨k, 0, none⟩)] w fun e w' => e = .returned (.tuple #[]) ∧ Sep w0 w' (sp c seq b k mv v p (s) R) := by
  have hlm := limit_pos hok
  try unfold P.putS
  have hd2 := putS_done s (at_ c 12 0 0) p.nt
  unfold P.putS at hd2
  have hsz : (mapCells c).length = 24 := rfl
  have HA := Lib.hid (fun w kind i k => at_any w c hok kind i k)
  have HC := Lib.hid (fun w => pcfg_any w c)
  have HFD := Lib.hid (fun w => cfgV_field2 c w)
  have HP := Lib.hid (fun (w' : World) (s : W.S) (R : List Thing) (hd : s.done.length ≤ 1000000) (hS : Sep w0 w' (setT k s :: R)) a v => put_sep (w0 := w0) (w := w') (R := R) (b := k) (s := s) hS hd a v)
  have ht8 := hok.t8
  have ht1 := hok.t1
  have hb1 := hok.b1
  have hb64 := hok.b64
  unfold sp mapV at *
  generalize hcf : cfgV c = cf at *
  clear hcf
  generalize mapCells c = cs at *
  obtain ⟨pn, pf, pwt, pwl, nt, nl, lim, ps⟩ := p
  dsimp only at *
  have HS := Lib.hid hS; clear hS
  generalize limit c = lk at *
  generalize hTL : setT k _ :: _ = TL
  have HTL := Lib.hid hTL; clear hTL
  have hB1 := HS.out.blk 1 rfl
  have kf := P.pf hsz seq mv v ⟨pn, pf, pwt, pwl, nt, nl, lim, ps⟩
  have k27 := (hB1.cell 27).trans kf.wt
  have k28 := (hB1.cell 28).trans kf.wl
  have k29 := (hB1.cell 29).trans kf.nt
  have k30 := (hB1.cell 30).trans kf.nl
  have f29 := hB1.froz 29
  have f30 := hB1.froz 30
  have kl := hB1.lt
  have hmd := hB1.drew
  unfold P.poolL at hmd hB1
  clear kf
  have hd : s.done.length ≤ 1000000 := by omega
  have hd3 : (W.put s (at_ c 12 0 0) nt).1.done.length ≤ 1000000 := by omega
  have hwb : IntKind.u64.wrap nt = nt := by rw [IntKind.wrap_u64]; omega
  have hwl : IntKind.u64.wrap nl = nl := by rw [IntKind.wrap_u64]; omega
  have d1 : (nt != pwt) = false := by simpa using h0
  have d2 : (nl != pwl) = false := by simpa using h1
  go_enter Try.func45, Try.ntmps45
  go_wp2_with fail
  refine wp_region_fr [(1, [0, 1, 2, 3, 4, 5, 6, 7, 8, 9, 10])] [] (by kernel_rfl) (by kernel_rfl) ?_
  simp only [theOps, nthOp, List.map_cons, List.map_nil, Array.getD_eq_getD_getElem?, List.getElem?_toArray, List.getElem?_cons_succ, List.getElem?_cons_zero, Option.getD_some]
  repeat ((first | refine wpSegs_soft ?_ | refine wpSegs_pure ?_ | refine wpSegs_here ?_); (repeat (first | go_big_quiet_step (fail) | quiet_step (fail))); refine wpQuiet_nil ?_)
  refine wpSegs_done ?_
  clear hB1 k27 k28 k29 k30 f29 f30 kl hmd
  have HS := Lib.hid HS.out.drew
  have hB1 := HS.out.blk 1 rfl
  have kf := P.pf hsz seq mv v ⟨pn, pf, pwt, pwl, nt, nl, lim, ps⟩
  have k27 := (hB1.cell 27).trans kf.wt
  have k28 := (hB1.cell 28).trans kf.wl
  have k29 := (hB1.cell 29).trans kf.nt
  have k30 := (hB1.cell 30).trans kf.nl
  have f29 := hB1.froz 29
  have f30 := hB1.froz 30
  have kl := hB1.lt
  have hmd := hB1.drew
  unfold P.poolL at hmd hB1
  clear kf
  go_wp2_with fail
  refine wp_region_fr [(1, [0, 1, 2, 3, 4, 5, 6, 7, 8, 9, 10])] [] (by kernel_rfl) (by kernel_rfl) ?_
  simp only [theOps, nthOp, List.map_cons, List.map_nil, Array.getD_eq_getD_getElem?, List.getElem?_toArray, List.getElem?_cons_succ, List.getElem?_cons_zero, Option.getD_some]
  repeat ((first | refine wpSegs_soft ?_ | refine wpSegs_pure ?_ | refine wpSegs_here ?_); (repeat (first | go_big_quiet_step (fail) | quiet_step (fail))); refine wpQuiet_nil ?_)
  refine wpSegs_done ?_
  clear hB1 k27 k28 k29 k30 f29 f30 kl hmd
  have HS := Lib.hid HS.out.drew
  have hB1 := HS.out.blk 1 rfl
  have kf := P.pf hsz seq mv v ⟨pn, pf, pwt, pwl, nt, nl, lim, ps⟩
  have k27 := (hB1.cell 27).trans kf.wt
  have k28 := (hB1.cell 28).trans kf.wl
  have k29 := (hB1.cell 29).trans kf.nt
  have k30 := (hB1.cell 30).trans kf.nl
  have f29 := hB1.froz 29
  have f30 := hB1.froz 30
  have kl := hB1.lt
  have hmd := hB1.drew
  unfold P.poolL at hmd hB1
  clear kf
  go_wp2_with fail
  go_end0
  exact ⟨rfl, HTL.out ▸ HS.out⟩
set_option maxRecDepth 100000 in
set_option maxHeartbeats 8000000 in
theorem pend_a {w0 w : World} {R : List Thing} (b k : Nat) (c : Cfg) (hok : Y.Ok c) (seq : Int) (mv v : Value) (p : P.St) (s : W.S) (hnt : 0 ≤ p.nt ∧ p.nt ≤ c.b) (hnl : 0 ≤ p.nl ∧ p.nl ≤ limit c) (h0 : p.nt ≠ p.wt) (h1 : p.nl = p.wl) (hd : s.done.length ≤ 900000) (hS : Sep w0 w (sp c seq b k mv v p s R)) :
    Calls Try.prog 45 #[.pointer (some ⟨b, 0, none⟩), .pointer (some ⟨k, 0, none⟩)] w fun e w' => e = .returned (.tuple #[]) ∧ Sep w0 w' (sp c seq b k mv v p (P.putS s (at_ c 12 0 0) p.nt) R) := by
  have hlm := limit_pos hok
  try unfold P.putS
  have hd2 := putS_done s (at_ c 12 0 0) p.nt
  unfold P.putS at hd2
  have hsz : (mapCells c).length = 24 := rfl
  have HA := Lib.hid (fun w kind i k => at_any w c hok kind i k)
  have HC := Lib.hid (fun w => pcfg_any w c)
  have HFD := Lib.hid (fun w => cfgV_field2 c w)
  have HP := Lib.hid (fun (w' : World) (s : W.S) (R : List Thing) (hd : s.done.length ≤ 1000000) (hS : Sep w0 w' (setT k s :: R)) a v => put_sep (w0 := w0) (w := w') (R := R) (b := k) (s := s) hS hd a v)
  have ht8 := hok.t8
  have ht1 := hok.t1
  have hb1 := hok.b1
  have hb64 := hok.b64
  unfold sp mapV at *
  generalize hcf : cfgV c = cf at *
  clear hcf
  generalize mapCells c = cs at *
  obtain ⟨pn, pf, pwt, pwl, nt, nl, lim, ps⟩ := p
  dsimp only at *
  have HS := Lib.hid hS; clear hS
  generalize limit c = lk at *
  generalize hTL : setT k _ :: _ = TL
  have HTL := Lib.hid hTL; clear hTL
  have hB1 := HS.out.blk 1 rfl
  have kf := P.pf hsz seq mv v ⟨pn, pf, pwt, pwl, nt, nl, lim, ps⟩
  have k27 := (hB1.cell 27).trans kf.wt
  have k28 := (hB1.cell 28).trans kf.wl
  have k29 := (hB1.cell 29).trans kf.nt
  have k30 := (hB1.cell 30).trans kf.nl
  have f29 := hB1.froz 29
  have f30 := hB1.froz 30
  have kl := hB1.lt
  have hmd := hB1.drew
  unfold P.poolL at hmd hB1
  clear kf
  have hd : s.done.length ≤ 1000000 := by omega
  have hd3 : (W.put s (at_ c 12 0 0) nt).1.done.length ≤ 1000000 := by omega
  have hwb : IntKind.u64.wrap nt = nt := by rw [IntKind.wrap_u64]; omega
  have hwl : IntKind.u64.wrap nl = nl := by rw [IntKind.wrap_u64]; omega
  have d1 : (nt != pwt) = true := by simpa using h0
  have d2 : (nl != pwl) = false := by simpa using h1
  go_enter Try.func45, Try.ntmps45
  go_wp2_with fail
  refine wp_region_fr [(1, [0, 1, 2, 3, 4, 5, 6, 7, 8, 9, 10])] [] (by kernel_rfl) (by kernel_rfl) ?_
  simp only [theOps, nthOp, List.map_cons, List.map_nil, Array.getD_eq_getD_getElem?, List.getElem?_toArray, List.getElem?_cons_succ, List.getElem?_cons_zero, Option.getD_some]
  repeat ((first | refine wpSegs_soft ?_ | refine wpSegs_pure ?_ | refine wpSegs_here ?_); (repeat (first | go_big_quiet_step (fail) | quiet_step (fail))); refine wpQuiet_nil ?_)
  refine wpSegs_done ?_
  clear hB1 k27 k28 k29 k30 f29 f30 kl hmd
  have HS := Lib.hid HS.out.drew
  have hB1 := HS.out.blk 1 rfl
  have kf := P.pf hsz seq mv v ⟨pn, pf, pwt, pwl, nt, nl, lim, ps⟩
  have k27 := (hB1.cell 27).trans kf.wt
  have k28 := (hB1.cell 28).trans kf.wl
  have k29 := (hB1.cell 29).trans kf.nt
  have k30 := (hB1.cell 30).trans kf.nl
  have f29 := hB1.froz 29
  have f30 := hB1.froz 30
  have kl := hB1.lt
  have hmd := hB1.drew
  unfold P.poolL at hmd hB1
  clear kf
  go_wp2_with fail
  refine wp_region_fr [(1, [0, 1, 2, 3, 4, 6, 7, 8, 9, 10, 11]), (2, [5]), (3, [12])] [] (by kernel_rfl) (by kernel_rfl) ?_
  simp only [theOps, nthOp, List.map_cons, List.map_nil, Array.getD_eq_getD_getElem?, List.getElem?_toArray, List.getElem?_cons_succ, List.getElem?_cons_zero, Option.getD_some]
  refine wpSegs_soft ?_
  iterate 4 (first | go_big_quiet_step (fail) | quiet_step (fail))
  refine wpQuiet_load_mid 31 _ b 0 cs _ rfl rfl rfl (rangeAt_pre hmd (by simp)) Try.underlying31 rfl (by rw [hsz]; kernel_rfl) ?_
  simp only [Act.put, List.setIfInBounds_toArray, List.set_cons_zero, List.set_cons_succ]
  repeat (first | go_big_quiet_step (fail) | quiet_step (fail))
  refine wpQuiet_nil ?_
  refine wpSegs_keep ?_
  go_wp2_with fail
  refine (HA.out _ _ _ _).mono ?_
  rintro e w4 ⟨rfl, hf⟩
  have HF := Lib.hid hf
  have HS := Lib.hid (HS.out.drew.fr0 hf); clear hf
  go_wp2_with fail
  refine ⟨⟨⟨_, (by exact HF.out)⟩, rfl⟩, ?_⟩
  clear hB1 k27 k28 k29 k30 f29 f30 kl hmd
  have hB1 := HS.out.blk 1 rfl
  have kf := P.pf hsz seq mv v ⟨pn, pf, pwt, pwl, nt, nl, lim, ps⟩
  have k27 := (hB1.cell 27).trans kf.wt
  have k28 := (hB1.cell 28).trans kf.wl
  have k29 := (hB1.cell 29).trans kf.nt
  have k30 := (hB1.cell 30).trans kf.nl
  have f29 := hB1.froz 29
  have f30 := hB1.froz 30
  have kl := hB1.lt
  have hmd := hB1.drew
  unfold P.poolL at hmd hB1
  clear kf
  repeat ((first | refine wpSegs_soft ?_ | refine wpSegs_pure ?_ | refine wpSegs_here ?_); (repeat (first | go_big_quiet_step (fail) | quiet_step (fail))); refine wpQuiet_nil ?_)
  refine wpSegs_hard ?_
  go_wp2_with fail
  refine (HP.out _ _ _ hd HS.out _ _).mono ?_
  rintro e w6 ⟨rfl, h3⟩
  clear hB1 k27 k28 k29 k30 f29 f30 kl hmd
  have HS := Lib.hid h3; clear h3
  have hB1 := HS.out.blk 1 rfl
  have kf := P.pf hsz seq mv v ⟨pn, pf, pwt, pwl, nt, nl, lim, ps⟩
  have k27 := (hB1.cell 27).trans kf.wt
  have k28 := (hB1.cell 28).trans kf.wl
  have k29 := (hB1.cell 29).trans kf.nt
  have k30 := (hB1.cell 30).trans kf.nl
  have f29 := hB1.froz 29
  have f30 := hB1.froz 30
  have kl := hB1.lt
  have hmd := hB1.drew
  unfold P.poolL at hmd hB1
  clear kf
  go_wp2_with fail
  repeat ((first | refine wpSegs_soft ?_ | refine wpSegs_pure ?_ | refine wpSegs_here ?_); (repeat (first | go_big_quiet_step (fail) | quiet_step (fail))); refine wpQuiet_nil ?_)
  refine wpSegs_done ?_
  go_wp2_with fail
  refine wp_region_fr [(1, [0, 1, 2, 3, 4, 5, 6, 7, 8, 9, 10])] [] (by kernel_rfl) (by kernel_rfl) ?_
  simp only [theOps, nthOp, List.map_cons, List.map_nil, Array.getD_eq_getD_getElem?, List.getElem?_toArray, List.getElem?_cons_succ, List.getElem?_cons_zero, Option.getD_some]
  repeat ((first | refine wpSegs_soft ?_ | refine wpSegs_pure ?_ | refine wpSegs_here ?_); (repeat (first | go_big_quiet_step (fail) | quiet_step (fail))); refine wpQuiet_nil ?_)
  refine wpSegs_done ?_
  clear hB1 k27 k28 k29 k30 f29 f30 kl hmd
  have HS := Lib.hid HS.out.drew
  have hB1 := HS.out.blk 1 rfl
  have kf := P.pf hsz seq mv v ⟨pn, pf, pwt, pwl, nt, nl, lim, ps⟩
  have k27 := (hB1.cell 27).trans kf.wt
  have k28 := (hB1.cell 28).trans kf.wl
  have k29 := (hB1.cell 29).trans kf.nt
  have k30 := (hB1.cell 30).trans kf.nl
  have f29 := hB1.froz 29
  have f30 := hB1.froz 30
  have kl := hB1.lt
  have hmd := hB1.drew
  unfold P.poolL at hmd hB1
  clear kf
  go_wp2_with fail
  go_end0
  exact ⟨rfl, HTL.out ▸ HS.out⟩
set_option maxRecDepth 100000 in
set_option maxHeartbeats 8000000 in
theorem pend_b {w0 w : World} {R : List Thing} (b k : Nat) (c : Cfg) (hok : Y.Ok c) (seq : Int) (mv v : Value) (p : P.St) (s : W.S) (hnt : 0 ≤ p.nt ∧ p.nt ≤ c.b) (hnl : 0 ≤ p.nl ∧ p.nl ≤ limit c) (h0 : p.nt = p.wt) (h1 : p.nl ≠ p.wl) (hd : s.done.length ≤ 900000) (hS : Sep w0 w (sp c seq b k mv v p s R)) :
    Calls Try.prog 45 #[.pointer (some ⟨b, 0, none⟩), .pointer (some ⟨k, 0, none⟩)] w fun e w' => e = .returned (.tuple #[]) ∧ Sep w0 w' (sp c seq b k mv v p (P.putS s (at_ c 14 0 0) p.nl) R) := by
  have hlm := limit_pos hok
  try unfold P.putS
  have hd2 := putS_done s (at_ c 12 0 0) p.nt
  unfold P.putS at hd2
  have hsz : (mapCells c).length = 24 := rfl
  have HA := Lib.hid (fun w kind i k => at_any w c hok kind i k)
  have HC := Lib.hid (fun w => pcfg_any w c)
  have HFD := Lib.hid (fun w => cfgV_field2 c w)
  have HP := Lib.hid (fun (w' : World) (s : W.S) (R : List Thing) (hd : s.done.length ≤ 1000000) (hS : Sep w0 w' (setT k s :: R)) a v => put_sep (w0 := w0) (w := w') (R := R) (b := k) (s := s) hS hd a v)
  have ht8 := hok.t8
  have ht1 := hok.t1
  have hb1 := hok.b1
  have hb64 := hok.b64
  unfold sp mapV at *
  generalize hcf : cfgV c = cf at *
  clear hcf
  generalize mapCells c = cs at *
  obtain ⟨pn, pf, pwt, pwl, nt, nl, lim, ps⟩ := p
  dsimp only at *
  have HS := Lib.hid hS; clear hS
  generalize limit c = lk at *
  generalize hTL : setT k _ :: _ = TL
  have HTL := Lib.hid hTL; clear hTL
  have hB1 := HS.out.blk 1 rfl
  have kf := P.pf hsz seq mv v ⟨pn, pf, pwt, pwl, nt, nl, lim, ps⟩
  have k27 := (hB1.cell 27).trans kf.wt
  have k28 := (hB1.cell 28).trans kf.wl
  have k29 := (hB1.cell 29).trans kf.nt
  have k30 := (hB1.cell 30).trans kf.nl
  have f29 := hB1.froz 29
  have f30 := hB1.froz 30
  have kl := hB1.lt
  have hmd := hB1.drew
  unfold P.poolL at hmd hB1
  clear kf
  have hd : s.done.length ≤ 1000000 := by omega
  have hd3 : (W.put s (at_ c 12 0 0) nt).1.done.length ≤ 1000000 := by omega
  have hwb : IntKind.u64.wrap nt = nt := by rw [IntKind.wrap_u64]; omega
  have hwl : IntKind.u64.wrap nl = nl := by rw [IntKind.wrap_u64]; omega
  have d1 : (nt != pwt) = false := by simpa using h0
  have d2 : (nl != pwl) = true := by simpa using h1
  go_enter Try.func45, Try.ntmps45
  go_wp2_with fail
  refine wp_region_fr [(1, [0, 1, 2, 3, 4, 5, 6, 7, 8, 9, 10])] [] (by kernel_rfl) (by kernel_rfl) ?_
  simp only [theOps, nthOp, List.map_cons, List.map_nil, Array.getD_eq_getD_getElem?, List.getElem?_toArray, List.getElem?_cons_succ, List.getElem?_cons_zero, Option.getD_some]
  repeat ((first | refine wpSegs_soft ?_ | refine wpSegs_pure ?_ | refine wpSegs_here ?_); (repeat (first | go_big_quiet_step (fail) | quiet_step (fail))); refine wpQuiet_nil ?_)
  refine wpSegs_done ?_
  clear hB1 k27 k28 k29 k30 f29 f30 kl hmd
  have HS := Lib.hid HS.out.drew
  have hB1 := HS.out.blk 1 rfl
  have kf := P.pf hsz seq mv v ⟨pn, pf, pwt, pwl, nt, nl, lim, ps⟩
  have k27 := (hB1.cell 27).trans kf.wt
  have k28 := (hB1.cell 28).trans kf.wl
  have k29 := (hB1.cell 29).trans kf.nt
  have k30 := (hB1.cell 30).trans kf.nl
  have f29 := hB1.froz 29
  have f30 := hB1.froz 30
  have kl := hB1.lt
  have hmd := hB1.drew
  unfold P.poolL at hmd hB1
  clear kf
  go_wp2_with fail
  refine wp_region_fr [(1, [0, 1, 2, 3, 4, 5, 6, 7, 8, 9, 10])] [] (by kernel_rfl) (by kernel_rfl) ?_
  simp only [theOps, nthOp, List.map_cons, List.map_nil, Array.getD_eq_getD_getElem?, List.getElem?_toArray, List.getElem?_cons_succ, List.getElem?_cons_zero, Option.getD_some]
  repeat ((first | refine wpSegs_soft ?_ | refine wpSegs_pure ?_ | refine wpSegs_here ?_); (repeat (first | go_big_quiet_step (fail) | quiet_step (fail))); refine wpQuiet_nil ?_)
  refine wpSegs_done ?_
  clear hB1 k27 k28 k29 k30 f29 f30 kl hmd
  have HS := Lib.hid HS.out.drew
  have hB1 := HS.out.blk 1 rfl
  have kf := P.pf hsz seq mv v ⟨pn, pf, pwt, pwl, nt, nl, lim, ps⟩
  have k27 := (hB1.cell 27).trans kf.wt
  have k28 := (hB1.cell 28).trans kf.wl
  have k29 := (hB1.cell 29).trans kf.nt
  have k30 := (hB1.cell 30).trans kf.nl
  have f29 := hB1.froz 29
  have f30 := hB1.froz 30
  have kl := hB1.lt
  have hmd := hB1.drew
  unfold P.poolL at hmd hB1
  clear kf
  go_wp2_with fail
  refine wp_region_fr [(1, [0, 1, 2, 3, 4, 6, 7, 8, 9, 10, 11]), (2, [5]), (3, [12])] [] (by kernel_rfl) (by kernel_rfl) ?_
  simp only [theOps, nthOp, List.map_cons, List.map_nil, Array.getD_eq_getD_getElem?, List.getElem?_toArray, List.getElem?_cons_succ, List.getElem?_cons_zero, Option.getD_some]
  refine wpSegs_soft ?_
  iterate 4 (first | go_big_quiet_step (fail) | quiet_step (fail))
  refine wpQuiet_load_mid 31 _ b 0 cs _ rfl rfl rfl (rangeAt_pre hmd (by simp)) Try.underlying31 rfl (by rw [hsz]; kernel_rfl) ?_
  simp only [Act.put, List.setIfInBounds_toArray, List.set_cons_zero, List.set_cons_succ]
  repeat (first | go_big_quiet_step (fail) | quiet_step (fail))
  refine wpQuiet_nil ?_
  refine wpSegs_keep ?_
  go_wp2_with fail
  refine (HA.out _ _ _ _).mono ?_
  rintro e w4 ⟨rfl, hf⟩
  have HF := Lib.hid hf
  have HS := Lib.hid (HS.out.drew.fr0 hf); clear hf
  go_wp2_with fail
  refine ⟨⟨⟨_, (by exact HF.out)⟩, rfl⟩, ?_⟩
  clear hB1 k27 k28 k29 k30 f29 f30 kl hmd
  have hB1 := HS.out.blk 1 rfl
  have kf := P.pf hsz seq mv v ⟨pn, pf, pwt, pwl, nt, nl, lim, ps⟩
  have k27 := (hB1.cell 27).trans kf.wt
  have k28 := (hB1.cell 28).trans kf.wl
  have k29 := (hB1.cell 29).trans kf.nt
  have k30 := (hB1.cell 30).trans kf.nl
  have f29 := hB1.froz 29
  have f30 := hB1.froz 30
  have kl := hB1.lt
  have hmd := hB1.drew
  unfold P.poolL at hmd hB1
  clear kf
  repeat ((first | refine wpSegs_soft ?_ | refine wpSegs_pure ?_ | refine wpSegs_here ?_); (repeat (first | go_big_quiet_step (fail) | quiet_step (fail))); refine wpQuiet_nil ?_)
  refine wpSegs_hard ?_
  go_wp2_with fail
  refine (HP.out _ _ _ hd HS.out _ _).mono ?_
  rintro e w6 ⟨rfl, h3⟩
  clear hB1 k27 k28 k29 k30 f29 f30 kl hmd
  have HS := Lib.hid h3; clear h3
  have hB1 := HS.out.blk 1 rfl
  have kf := P.pf hsz seq mv v ⟨pn, pf, pwt, pwl, nt, nl, lim, ps⟩
  have k27 := (hB1.cell 27).trans kf.wt
  have k28 := (hB1.cell 28).trans kf.wl
  have k29 := (hB1.cell 29).trans kf.nt
  have k30 := (hB1.cell 30).trans kf.nl
  have f29 := hB1.froz 29
  have f30 := hB1.froz 30
  have kl := hB1.lt
  have hmd := hB1.drew
  unfold P.poolL at hmd hB1
  clear kf
  go_wp2_with fail
  repeat ((first | refine wpSegs_soft ?_ | refine wpSegs_pure ?_ | refine wpSegs_here ?_); (repeat (first | go_big_quiet_step (fail) | quiet_step (fail))); refine wpQuiet_nil ?_)
  refine wpSegs_done ?_
  go_wp2_with fail
  go_end0
  exact ⟨rfl, HTL.out ▸ HS.out⟩
set_option maxRecDepth 100000 in
set_option maxHeartbeats 8000000 in
theorem pend_ab {w0 w : World} {R : List Thing} (b k : Nat) (c : Cfg) (hok : Y.Ok c) (seq : Int) (mv v : Value) (p : P.St) (s : W.S) (hnt : 0 ≤ p.nt ∧ p.nt ≤ c.b) (hnl : 0 ≤ p.nl ∧ p.nl ≤ limit c) (h0 : p.nt ≠ p.wt) (h1 : p.nl ≠ p.wl) (hd : s.done.length ≤ 900000) (hS : Sep w0 w (sp c seq b k mv v p s R)) :
    Calls Try.prog 45 #[.pointer (some ⟨b, 0, none⟩), .pointer (some ⟨k, 0, none⟩)] w fun e w' => e = .returned (.tuple #[]) ∧ Sep w0 w' (sp c seq b k mv v p (P.putS (P.putS s (at_ c 12 0 0) p.nt) (at_ c 14 0 0) p.nl) R) := by
  have hlm := limit_pos hok
  try unfold P.putS
  have hd2 := putS_done s (at_ c 12 0 0) p.nt
  unfold P.putS at hd2
  have hsz : (mapCells c).length = 24 := rfl
  have HA := Lib.hid (fun w kind i k => at_any w c hok kind i k)
  have HC := Lib.hid (fun w => pcfg_any w c)
  have HFD := Lib.hid (fun w => cfgV_field2 c w)
  have HP := Lib.hid (fun (w' : World) (s : W.S) (R : List Thing) (hd : s.done.length ≤ 1000000) (hS : Sep w0 w' (setT k s :: R)) a v => put_sep (w0 := w0) (w := w') (R := R) (b := k) (s := s) hS hd a v)
  have ht8 := hok.t8
  have ht1 := hok.t1
  have hb1 := hok.b1
  have hb64 := hok.b64
  unfold sp mapV at *
  generalize hcf : cfgV c = cf at *
  clear hcf
  generalize mapCells c = cs at *
  obtain ⟨pn, pf, pwt, pwl, nt, nl, lim, ps⟩ := p
  dsimp only at *
  have HS := Lib.hid hS; clear hS
  generalize limit c = lk at *
  generalize hTL : setT k _ :: _ = TL
  have HTL := Lib.hid hTL; clear hTL
  have hB1 := HS.out.blk 1 rfl
  have kf := P.pf hsz seq mv v ⟨pn, pf, pwt, pwl, nt, nl, lim, ps⟩
  have k27 := (hB1.cell 27).trans kf.wt
  have k28 := (hB1.cell 28).trans kf.wl
  have k29 := (hB1.cell 29).trans kf.nt
  have k30 := (hB1.cell 30).trans kf.nl
  have f29 := hB1.froz 29
  have f30 := hB1.froz 30
  have kl := hB1.lt
  have hmd := hB1.drew
  unfold P.poolL at hmd hB1
  clear kf
  have hd : s.done.length ≤ 1000000 := by omega
  have hd3 : (W.put s (at_ c 12 0 0) nt).1.done.length ≤ 1000000 := by omega
  have hwb : IntKind.u64.wrap nt = nt := by rw [IntKind.wrap_u64]; omega
  have hwl : IntKind.u64.wrap nl = nl := by rw [IntKind.wrap_u64]; omega
  have d1 : (nt != pwt) = true := by simpa using h0
  have d2 : (nl != pwl) = true := by simpa using h1
  go_enter Try.func45, Try.ntmps45
  go_wp2_with fail
  refine wp_region_fr [(1, [0, 1, 2, 3, 4, 5, 6, 7, 8, 9, 10])] [] (by kernel_rfl) (by kernel_rfl) ?_
  simp only [theOps, nthOp, List.map_cons, List.map_nil, Array.getD_eq_getD_getElem?, List.getElem?_toArray, List.getElem?_cons_succ, List.getElem?_cons_zero, Option.getD_some]
  repeat ((first | refine wpSegs_soft ?_ | refine wpSegs_pure ?_ | refine wpSegs_here ?_); (repeat (first | go_big_quiet_step (fail) | quiet_step (fail))); refine wpQuiet_nil ?_)
  refine wpSegs_done ?_
  clear hB1 k27 k28 k29 k30 f29 f30 kl hmd
  have HS := Lib.hid HS.out.drew
  have hB1 := HS.out.blk 1 rfl
  have kf := P.pf hsz seq mv v ⟨pn, pf, pwt, pwl, nt, nl, lim, ps⟩
  have k27 := (hB1.cell 27).trans kf.wt
  have k28 := (hB1.cell 28).trans kf.wl
  have k29 := (hB1.cell 29).trans kf.nt
  have k30 := (hB1.cell 30).trans kf.nl
  have f29 := hB1.froz 29
  have f30 := hB1.froz 30
  have kl := hB1.lt
  have hmd := hB1.drew
  unfold P.poolL at hmd hB1
  clear kf
  go_wp2_with fail
  refine wp_region_fr [(1, [0, 1, 2, 3, 4, 6, 7, 8, 9, 10, 11]), (2, [5]), (3, [12])] [] (by kernel_rfl) (by kernel_rfl) ?_
  simp only [theOps, nthOp, List.map_cons, List.map_nil, Array.getD_eq_getD_getElem?, List.getElem?_toArray, List.getElem?_cons_succ, List.getElem?_cons_zero, Option.getD_some]
  refine wpSegs_soft ?_
  iterate 4 (first | go_big_quiet_step (fail) | quiet_step (fail))
  refine wpQuiet_load_mid 31 _ b 0 cs _ rfl rfl rfl (rangeAt_pre hmd (by simp)) Try.underlying31 rfl (by rw [hsz]; kernel_rfl) ?_
  simp only [Act.put, List.setIfInBounds_toArray, List.set_cons_zero, List.set_cons_succ]
  repeat (first | go_big_quiet_step (fail) | quiet_step (fail))
  refine wpQuiet_nil ?_
  refine wpSegs_keep ?_
  go_wp2_with fail
  refine (HA.out _ _ _ _).mono ?_
  rintro e w4 ⟨rfl, hf⟩
  have HF := Lib.hid hf
  have HS := Lib.hid (HS.out.drew.fr0 hf); clear hf
  go_wp2_with fail
  refine ⟨⟨⟨_, (by exact HF.out)⟩, rfl⟩, ?_⟩
  clear hB1 k27 k28 k29 k30 f29 f30 kl hmd
  have hB1 := HS.out.blk 1 rfl
  have kf := P.pf hsz seq mv v ⟨pn, pf, pwt, pwl, nt, nl, lim, ps⟩
  have k27 := (hB1.cell 27).trans kf.wt
  have k28 := (hB1.cell 28).trans kf.wl
  have k29 := (hB1.cell 29).trans kf.nt
  have k30 := (hB1.cell 30).trans kf.nl
  have f29 := hB1.froz 29
  have f30 := hB1.froz 30
  have kl := hB1.lt
  have hmd := hB1.drew
  unfold P.poolL at hmd hB1
  clear kf
  repeat ((first | refine wpSegs_soft ?_ | refine wpSegs_pure ?_ | refine wpSegs_here ?_); (repeat (first | go_big_quiet_step (fail) | quiet_step (fail))); refine wpQuiet_nil ?_)
  refine wpSegs_hard ?_
  go_wp2_with fail
  refine (HP.out _ _ _ hd HS.out _ _).mono ?_
  rintro e w6 ⟨rfl, h3⟩
  clear hB1 k27 k28 k29 k30 f29 f30 kl hmd
  have HS := Lib.hid h3; clear h3
  have hB1 := HS.out.blk 1 rfl
  have kf := P.pf hsz seq mv v ⟨pn, pf, pwt, pwl, nt, nl, lim, ps⟩
  have k27 := (hB1.cell 27).trans kf.wt
  have k28 := (hB1.cell 28).trans kf.wl
  have k29 := (hB1.cell 29).trans kf.nt
  have k30 := (hB1.cell 30).trans kf.nl
  have f29 := hB1.froz 29
  have f30 := hB1.froz 30
  have kl := hB1.lt
  have hmd := hB1.drew
  unfold P.poolL at hmd hB1
  clear kf
  go_wp2_with fail
  repeat ((first | refine wpSegs_soft ?_ | refine wpSegs_pure ?_ | refine wpSegs_here ?_); (repeat (first | go_big_quiet_step (fail) | quiet_step (fail))); refine wpQuiet_nil ?_)
  refine wpSegs_done ?_
  go_wp2_with fail
  refine wp_region_fr [(1, [0, 1, 2, 3, 4, 5, 6, 7, 8, 9, 10])] [] (by kernel_rfl) (by kernel_rfl) ?_
  simp only [theOps, nthOp, List.map_cons, List.map_nil, Array.getD_eq_getD_getElem?, List.getElem?_toArray, List.getElem?_cons_succ, List.getElem?_cons_zero, Option.getD_some]
  repeat ((first | refine wpSegs_soft ?_ | refine wpSegs_pure ?_ | refine wpSegs_here ?_); (repeat (first | go_big_quiet_step (fail) | quiet_step (fail))); refine wpQuiet_nil ?_)
  refine wpSegs_done ?_
  clear hB1 k27 k28 k29 k30 f29 f30 kl hmd
  have HS := Lib.hid HS.out.drew
  have hB1 := HS.out.blk 1 rfl
  have kf := P.pf hsz seq mv v ⟨pn, pf, pwt, pwl, nt, nl, lim, ps⟩
  have k27 := (hB1.cell 27).trans kf.wt
  have k28 := (hB1.cell 28).trans kf.wl
  have k29 := (hB1.cell 29).trans kf.nt
  have k30 := (hB1.cell 30).trans kf.nl
  have f29 := hB1.froz 29
  have f30 := hB1.froz 30
  have kl := hB1.lt
  have hmd := hB1.drew
  unfold P.poolL at hmd hB1
  clear kf
  go_wp2_with fail
  refine wp_region_fr [(1, [0, 1, 2, 3, 4, 6, 7, 8, 9, 10, 11]), (2, [5]), (3, [12])] [] (by kernel_rfl) (by kernel_rfl) ?_
  simp only [theOps, nthOp, List.map_cons, List.map_nil, Array.getD_eq_getD_getElem?, List.getElem?_toArray, List.getElem?_cons_succ, List.getElem?_cons_zero, Option.getD_some]
  refine wpSegs_soft ?_
  iterate 4 (first | go_big_quiet_step (fail) | quiet_step (fail))
  refine wpQuiet_load_mid 31 _ b 0 cs _ rfl rfl rfl (rangeAt_pre hmd (by simp)) Try.underlying31 rfl (by rw [hsz]; kernel_rfl) ?_
  simp only [Act.put, List.setIfInBounds_toArray, List.set_cons_zero, List.set_cons_succ]
  repeat (first | go_big_quiet_step (fail) | quiet_step (fail))
  refine wpQuiet_nil ?_
  refine wpSegs_keep ?_
  go_wp2_with fail
  refine (HA.out _ _ _ _).mono ?_
  rintro e w4 ⟨rfl, hf⟩
  have HF := Lib.hid hf
  have HS := Lib.hid (HS.out.drew.fr0 hf); clear hf
  go_wp2_with fail
  refine ⟨⟨⟨_, (by exact HF.out)⟩, rfl⟩, ?_⟩
  clear hB1 k27 k28 k29 k30 f29 f30 kl hmd
  have hB1 := HS.out.blk 1 rfl
  have kf := P.pf hsz seq mv v ⟨pn, pf, pwt, pwl, nt, nl, lim, ps⟩
  have k27 := (hB1.cell 27).trans kf.wt
  have k28 := (hB1.cell 28).trans kf.wl
  have k29 := (hB1.cell 29).trans kf.nt
  have k30 := (hB1.cell 30).trans kf.nl
  have f29 := hB1.froz 29
  have f30 := hB1.froz 30
  have kl := hB1.lt
  have hmd := hB1.drew
  unfold P.poolL at hmd hB1
  clear kf
  repeat ((first | refine wpSegs_soft ?_ | refine wpSegs_pure ?_ | refine wpSegs_here ?_); (repeat (first | go_big_quiet_step (fail) | quiet_step (fail))); refine wpQuiet_nil ?_)
  refine wpSegs_hard ?_
  go_wp2_with fail
  refine (HP.out _ _ _ hd3 HS.out _ _).mono ?_
  rintro e w6 ⟨rfl, h3⟩
  clear hB1 k27 k28 k29 k30 f29 f30 kl hmd
  have HS := Lib.hid h3; clear h3
  have hB1 := HS.out.blk 1 rfl
  have kf := P.pf hsz seq mv v ⟨pn, pf, pwt, pwl, nt, nl, lim, ps⟩
  have k27 := (hB1.cell 27).trans kf.wt
  have k28 := (hB1.cell 28).trans kf.wl
  have k29 := (hB1.cell 29).trans kf.nt
  have k30 := (hB1.cell 30).trans kf.nl
  have f29 := hB1.froz 29
  have f30 := hB1.froz 30
  have kl := hB1.lt
  have hmd := hB1.drew
  unfold P.poolL at hmd hB1
  clear kf
  go_wp2_with fail
  repeat ((first | refine wpSegs_soft ?_ | refine wpSegs_pure ?_ | refine wpSegs_here ?_); (repeat (first | go_big_quiet_step (fail) | quiet_step (fail))); refine wpQuiet_nil ?_)
  refine wpSegs_done ?_
  go_wp2_with fail
  go_end0
  exact ⟨rfl, HTL.out ▸ HS.out⟩
theorem pend_of {w0 w : World} {R : List Thing} (b k : Nat) (c : Cfg) (hok : Y.Ok c) (seq : Int) (mv v : Value) (p : P.St) (s : W.S) (hnt : 0 ≤ p.nt ∧ p.nt ≤ c.b) (hnl : 0 ≤ p.nl ∧ p.nl ≤ limit c) (hd : s.done.length ≤ 900000) (hS : Sep w0 w (sp c seq b k mv v p s R)) :
    Calls Try.prog 45 #[.pointer (some ⟨b, 0, none⟩), .pointer (some ⟨k, 0, none⟩)] w fun e w' => e = .returned (.tuple #[]) ∧ Sep w0 w' (sp c seq b k mv v p (P.end_ c p s) R) := by
  unfold P.end_
  dsimp only
  by_cases h : p.nt = p.wt <;> by_cases h1 : p.nl = p.wl
  · rw [if_neg (Classical.not_not.2 h1), if_neg (Classical.not_not.2 h)]; exact pend_no b k c hok seq mv v p s hnt hnl h h1 hd hS
  · rw [if_pos h1, if_neg (Classical.not_not.2 h)]; exact pend_b b k c hok seq mv v p s hnt hnl h h1 hd hS
  · rw [if_neg (Classical.not_not.2 h1), if_pos h]; exact pend_a b k c hok seq mv v p s hnt hnl h h1 hd hS
  · rw [if_pos h1, if_pos h]; exact pend_ab b k c hok seq mv v p s hnt hnl h h1 hd hS
end Go.Proofs.Ytccioehckfdjdaa
