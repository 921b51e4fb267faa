/- The walk of pool's Tell. -/
import Derived.Test.YtccioehckfdjdaaPask
import Derived.Test.YtccioehckfdjdaaMBase
set_option linter.unusedSimpArgs false
set_option linter.unusedVariables false
namespace Go.Proofs.Ytccioehckfdjdaa
open Go.RowKit Go.Tum Go.Tum.Y
theorem zeroIntP (w : World) : (zeroValue 3).run Try.prog w = .ok (.int .i64 0) w := by kernel_rfl
theorem P_infoU : (Try.prog.info? 22).map (fun i => (i.zero, i.size, i.bytes)) = some (some (.int .u64 0), 1, 8) := by kernel_rfl
theorem poolL_was {w : World} {b : Nat} {T : TypeId} {cs : List Value} (hsz : cs.length = 24) {seq : Int} {mv v : Value} {p : P.St} (h : Blk w b T (P.poolL cs seq mv v p)) : w.rangeAt b 27 [.int .i64 p.wt, .int .i64 p.wl] := fun j u hj => by
  have kf := P.pf hsz seq mv v p
  rcases j with _ | _ | j
  · simp at hj; subst hj; exact (h.cell 27).trans kf.wt
  · simp at hj; subst hj; exact (h.cell 28).trans kf.wl
  · simp at hj
theorem poolL_now {cs : List Value} (hsz : cs.length = 24) (seq : Int) (mv v : Value) (p : P.St) (x y : Int) : setL (P.poolL cs seq mv v p) 29 [.int .i64 x, .int .i64 y] = P.poolL cs seq mv v { p with nt := x, nl := y } := by
  simp only [setL, P.poolL_nt hsz, P.poolL_nl hsz]
set_option maxRecDepth 100000 in
set_option maxHeartbeats 8000000 in
theorem ptell_no {w0 w : World} {R : List Thing} (b : Nat) (c : Cfg) (hok : Y.Ok c) (seq x s : Int) (ok : Bool) (hx : 0 ≤ x ∧ x ≤ 18446744073709551615) (pn : Int) (pf : Int → Int) (pwt pwl nt nl : Int) (lim : List Int) (ps : Int) (hp : P.Ok c ⟨pn, pf, pwt, pwl, nt, nl, lim, ps⟩) (h0 : ps ≠ 0) (hS : Sep w0 w (poolT c seq b ⟨pn, pf, pwt, pwl, nt, nl, lim, ps⟩ :: R)) :
    Calls Try.prog 30 #[.pointer (some ⟨b, 0, none⟩), .agg #[.int .u64 x, .int .u64 s, .bool ok]] w fun e w' => e = .returned (.tuple #[]) ∧ Sep w0 w' (poolT c seq b ⟨pn, pf, pwt, pwl, nt, nl, lim, ps⟩ :: R) := by
  obtain ⟨mb, la, lc, h2⟩ := poolT_of hS
  have HTO := Lib.hid (fun (w' : World) (n k : Nat) (v : Value) hn hk hS => poolT_to (w0 := w0) (w := w') (R := R) (c := c) (seq := seq) (b := b) (mb := mb) (n := n) (k := k) (v := v) (p := ⟨pn, pf, pwt, pwl, nt, nl, lim, ps⟩) hn hk hS)
  generalize poolT c seq b ⟨pn, pf, pwt, pwl, nt, nl, lim, ps⟩ = TH at *
  have hnb := hp.next
  have hsb := hp.s
  have hfb := hp.f
  have hwt := hp.wt
  have hwl := hp.wl
  have hll := hp.len
  have hlm := limit_pos hok
  have ht8 := hok.t8
  have ht1 := hok.t1
  have hb1 := hok.b1
  have hb64 := hok.b64
  have hsz : (mapCells c).length = 24 := rfl
  have HCF := Lib.hid (fun w => pcfg_any w c)
  have HFD := Lib.hid (fun w => cfgV_field c w)
  have HLI := Lib.hid (fun w => limit_any w c hok)
  unfold mapV at *
  generalize hcf : cfgV c = cf at *
  clear hcf
  generalize mapCells c = cs at *
  dsimp only at h2 hnb hsb hfb hwt hwl hll HTO
  obtain ⟨ln, hln⟩ : ∃ ln : Nat, lim.length = ln := ⟨_, rfl⟩
  rw [hln] at h2 hll
  have HLN := Lib.hid hln
  have HS := Lib.hid (h2.new 55 [.int .u64 x, .int .u64 s, .bool ok])
  clear h2 hS hp hln
  have hq := HS.out.blk 1 rfl
  have o0 := (HS.out.blk 0 rfl).cell 0
  have o1 := (HS.out.blk 0 rfl).cell 1
  have ol := (HS.out.blk 0 rfl).lt
  simp only [List.getElem?_cons_zero, List.getElem?_cons_succ] at o0 o1
  unfold P.poolL at hq
  go_enter Try.func30, Try.ntmps30
  go_wp2_with (refine wpList_load_any 31 _ rfl rfl _ 0 rfl cs _ (Blk.pre hq) Try.underlying31 rfl (by rw [hsz]; kernel_rfl) ?_)
  refine (HCF.out _).mono ?_
  rintro e w2 ⟨rfl, hf⟩
  have HS1 := Lib.hid (HS.out.fr0 hf); clear hf hq o0 o1 ol
  have o0 := (HS1.out.blk 0 rfl).cell 0
  have o1 := (HS1.out.blk 0 rfl).cell 1
  have ol := (HS1.out.blk 0 rfl).lt
  simp only [List.getElem?_cons_zero, List.getElem?_cons_succ] at o0 o1
  have HS := Lib.hid (HS1.out.new 41 [.int .u64 x, .int .u64 s]); clear HS1
  have hfl := fun w => (HFD.out w).1
  have hB1 := HS.out.blk 2 rfl
  have kf := P.pf hsz seq (.map (some mb)) (.slice la ln lc) ⟨pn, pf, pwt, pwl, nt, nl, lim, ps⟩
  have k24 := (hB1.cell 24).trans kf.seq
  have k25 := (hB1.cell 25).trans kf.next
  have k26 := (hB1.cell 26).trans kf.mp
  have k27 := (hB1.cell 27).trans kf.wt
  have k28 := (hB1.cell 28).trans kf.wl
  have k31 := (hB1.cell 31).trans kf.lim
  have k32 := (hB1.cell 32).trans kf.s
  have f25 := hB1.froz 25
  have f32 := hB1.froz 32
  have f27 := hB1.froz 27
  have f28 := hB1.froz 28
  have f31 := hB1.froz 31
  have kl := hB1.lt
  clear kf
  have z0 := (HS.out.blk 0 rfl).cell 0
  have z1 := (HS.out.blk 0 rfl).cell 1
  have zl := (HS.out.blk 0 rfl).lt
  simp only [List.getElem?_cons_zero, List.getElem?_cons_succ] at z0 z1
  have d0 : (ps != 0) = true := by simpa using h0
  go_wp2_with fail
  refine bodyPost_ret (v := .tuple #[]) (by simp [results, Try.results30, go_sem]) rfl ?_
  exact ⟨rfl, HTO.out _ _ _ _ (Nat.le_refl _) HLN.out.symm HS.out.tail.tail⟩
set_option maxRecDepth 100000 in
set_option maxHeartbeats 8000000 in
theorem ptell_slot {w0 w : World} {R : List Thing} (b : Nat) (c : Cfg) (hok : Y.Ok c) (seq x s : Int) (ok : Bool) (hx : 0 ≤ x ∧ x ≤ 18446744073709551615) (pn : Int) (pf : Int → Int) (pwt pwl nt nl : Int) (lim : List Int) (ps : Int) (hp : P.Ok c ⟨pn, pf, pwt, pwl, nt, nl, lim, ps⟩) (h0 : ps = 0) (h1 : pn < c.t) (hS : Sep w0 w (poolT c seq b ⟨pn, pf, pwt, pwl, nt, nl, lim, ps⟩ :: R)) :
    Calls Try.prog 30 #[.pointer (some ⟨b, 0, none⟩), .agg #[.int .u64 x, .int .u64 s, .bool ok]] w fun e w' => e = .returned (.tuple #[]) ∧ Sep w0 w' (poolT c seq b ⟨pn + 1, P.bump pf x, pwt, pwl, nt, nl, lim, ps⟩ :: R) := by
  obtain ⟨mb, la, lc, h2⟩ := poolT_of hS
  have HTO := Lib.hid (fun (w' : World) (n k : Nat) (v : Value) hn hk hS => poolT_to (w0 := w0) (w := w') (R := R) (c := c) (seq := seq) (b := b) (mb := mb) (n := n) (k := k) (v := v) (p := ⟨pn + 1, P.bump pf x, pwt, pwl, nt, nl, lim, ps⟩) hn hk hS)
  generalize poolT c seq b ⟨pn + 1, P.bump pf x, pwt, pwl, nt, nl, lim, ps⟩ = TH at *
  have hnb := hp.next
  have hsb := hp.s
  have hfb := hp.f
  have hwt := hp.wt
  have hwl := hp.wl
  have hll := hp.len
  have hlm := limit_pos hok
  have ht8 := hok.t8
  have ht1 := hok.t1
  have hb1 := hok.b1
  have hb64 := hok.b64
  have hsz : (mapCells c).length = 24 := rfl
  have HCF := Lib.hid (fun w => pcfg_any w c)
  have HFD := Lib.hid (fun w => cfgV_field c w)
  have HLI := Lib.hid (fun w => limit_any w c hok)
  unfold mapV at *
  generalize hcf : cfgV c = cf at *
  clear hcf
  generalize mapCells c = cs at *
  dsimp only at h2 hnb hsb hfb hwt hwl hll HTO
  obtain ⟨ln, hln⟩ : ∃ ln : Nat, lim.length = ln := ⟨_, rfl⟩
  rw [hln] at h2 hll
  have HLN := Lib.hid hln
  have HS := Lib.hid (h2.new 55 [.int .u64 x, .int .u64 s, .bool ok])
  clear h2 hS hp hln
  have hq := HS.out.blk 1 rfl
  have o0 := (HS.out.blk 0 rfl).cell 0
  have o1 := (HS.out.blk 0 rfl).cell 1
  have ol := (HS.out.blk 0 rfl).lt
  simp only [List.getElem?_cons_zero, List.getElem?_cons_succ] at o0 o1
  unfold P.poolL at hq
  go_enter Try.func30, Try.ntmps30
  go_wp2_with (refine wpList_load_any 31 _ rfl rfl _ 0 rfl cs _ (Blk.pre hq) Try.underlying31 rfl (by rw [hsz]; kernel_rfl) ?_)
  refine (HCF.out _).mono ?_
  rintro e w2 ⟨rfl, hf⟩
  have HS1 := Lib.hid (HS.out.fr0 hf); clear hf hq o0 o1 ol
  have o0 := (HS1.out.blk 0 rfl).cell 0
  have o1 := (HS1.out.blk 0 rfl).cell 1
  have ol := (HS1.out.blk 0 rfl).lt
  simp only [List.getElem?_cons_zero, List.getElem?_cons_succ] at o0 o1
  have HS := Lib.hid (HS1.out.new 41 [.int .u64 x, .int .u64 s]); clear HS1
  have hfl := fun w => (HFD.out w).1
  have hB1 := HS.out.blk 2 rfl
  have kf := P.pf hsz seq (.map (some mb)) (.slice la ln lc) ⟨pn, pf, pwt, pwl, nt, nl, lim, ps⟩
  have k24 := (hB1.cell 24).trans kf.seq
  have k25 := (hB1.cell 25).trans kf.next
  have k26 := (hB1.cell 26).trans kf.mp
  have k27 := (hB1.cell 27).trans kf.wt
  have k28 := (hB1.cell 28).trans kf.wl
  have k31 := (hB1.cell 31).trans kf.lim
  have k32 := (hB1.cell 32).trans kf.s
  have f25 := hB1.froz 25
  have f32 := hB1.froz 32
  have f27 := hB1.froz 27
  have f28 := hB1.froz 28
  have f31 := hB1.froz 31
  have kl := hB1.lt
  clear kf
  have z0 := (HS.out.blk 0 rfl).cell 0
  have z1 := (HS.out.blk 0 rfl).cell 1
  have zl := (HS.out.blk 0 rfl).lt
  simp only [List.getElem?_cons_zero, List.getElem?_cons_succ] at z0 z1
  subst h0
  have hwf : (Lit.int .u64 x).wf = true := by
    have e0 : IntKind.u64.min = 0 := by decide
    have e1 : IntKind.u64.max = 18446744073709551615 := by decide
    simp only [Lit.wf, Bool.and_eq_true, decide_eq_true_eq]; omega
  have hfx := hfb x
  have hwf1 : (Lit.int .i64 (pf x + 1)).wf = true := WalkArith.wf_i64 (by omega)
  have hkm : pn.toNat < maxLen := by unfold maxLen; omega
  have hwx : IntKind.i64.wrap (pf x + 1) = pf x + 1 := wrap_i64_id _ (by omega) (by omega)
  go_wp2_with fail
  refine wp_region_fr [(1, [0, 1, 2, 3, 4, 5]), (3, [6]), (0, [7]), (3, [8])] [] (by kernel_rfl) (by kernel_rfl) ?_
  simp only [theOps, nthOp, List.map_cons, List.map_nil, Array.getD_eq_getD_getElem?, List.getElem?_toArray, List.getElem?_cons_succ, List.getElem?_cons_zero, Option.getD_some]
  repeat ((first | refine wpSegs_soft ?_ | refine wpSegs_pure ?_ | refine wpSegs_here ?_); (repeat (first | go_big_quiet_step (fail) | quiet_step (fail))); refine wpQuiet_nil ?_)
  refine wpSegs_hard ?_
  go_wp2_with (at_lookup; go_must (refine wpList_lookup_sep HS.out.drew 3 rfl (by rfl) _ _ 160 rfl Try.underlying22 Try.underlying160 Try.underlying3 zeroIntP rfl x rfl hwf ?_))
  repeat ((first | refine wpSegs_soft ?_ | refine wpSegs_pure ?_ | refine wpSegs_here ?_); (repeat (first | go_big_quiet_step (fail) | quiet_step (fail))); refine wpQuiet_nil ?_)
  refine wpSegs_hard ?_
  go_wp2_with (at_mapUpdate; go_must (refine wpList_update_sep HS.out.drew 3 rfl rfl _ _ _ 160 rfl Try.underlying22 Try.underlying160 Try.underlying3 rfl x rfl hwf (pf x + 1) rfl hwf1 hkm ?_); intro wU hU fU; have HU := Lib.hid hU; clear hU fU)
  refine wpSegs_done ?_
  have hU : Sep w0 wU (_ :: _ :: blkT b 162 (P.poolL cs seq (.map (some mb)) (.slice la ln lc) ⟨pn, P.bump pf x, pwt, pwl, nt, nl, lim, 0⟩) :: mapT Try.prog 22 3 .u64 .i64 mb (pn.toNat + 1) (P.bump pf x) :: _) := HU.out
  clear hB1 k24 k25 k26 k27 k28 k31 k32 f25 f32 f27 f28 f31 kl z0 z1 zl
  have HS := Lib.hid hU; clear hU HU
  have hB1 := HS.out.blk 2 rfl
  have kf := P.pf hsz seq (.map (some mb)) (.slice la ln lc) ⟨pn, P.bump pf x, pwt, pwl, nt, nl, lim, 0⟩
  have k24 := (hB1.cell 24).trans kf.seq
  have k25 := (hB1.cell 25).trans kf.next
  have k26 := (hB1.cell 26).trans kf.mp
  have k27 := (hB1.cell 27).trans kf.wt
  have k28 := (hB1.cell 28).trans kf.wl
  have k31 := (hB1.cell 31).trans kf.lim
  have k32 := (hB1.cell 32).trans kf.s
  have f25 := hB1.froz 25
  have f32 := hB1.froz 32
  have f27 := hB1.froz 27
  have f28 := hB1.froz 28
  have f31 := hB1.froz 31
  have kl := hB1.lt
  clear kf
  have z0 := (HS.out.blk 0 rfl).cell 0
  have z1 := (HS.out.blk 0 rfl).cell 1
  have zl := (HS.out.blk 0 rfl).lt
  simp only [List.getElem?_cons_zero, List.getElem?_cons_succ] at z0 z1
  have d14 : decide (c.t < pn) = false := by simp; omega
  -- next goes up: state ⟨pn, P.bump pf x, pwt, pwl, nt, nl, lim, 0⟩ (slice la ln lc) becomes ⟨pn + 1, P.bump pf x, pwt, pwl, nt, nl, lim, 0⟩; is all read: not
  have hS2 := HS.out.set 2 rfl 25 (.int .i64 (pn + 1))
  simp only [List.set_cons_zero, List.set_cons_succ, P.poolL_next hsz] at hS2
  go_wp2_with fail
  generalize World.setCell _ _ _ = w5 at hS2 ⊢
  clear hB1 k24 k25 k26 k27 k28 k31 k32 f25 f32 f27 f28 f31 kl z0 z1 zl
  have HS := Lib.hid hS2.drew; clear hS2
  have hB1 := HS.out.blk 2 rfl
  have kf := P.pf hsz seq (.map (some mb)) (.slice la ln lc) ⟨pn + 1, P.bump pf x, pwt, pwl, nt, nl, lim, 0⟩
  have k24 := (hB1.cell 24).trans kf.seq
  have k25 := (hB1.cell 25).trans kf.next
  have k26 := (hB1.cell 26).trans kf.mp
  have k27 := (hB1.cell 27).trans kf.wt
  have k28 := (hB1.cell 28).trans kf.wl
  have k31 := (hB1.cell 31).trans kf.lim
  have k32 := (hB1.cell 32).trans kf.s
  have f25 := hB1.froz 25
  have f32 := hB1.froz 32
  have f27 := hB1.froz 27
  have f28 := hB1.froz 28
  have f31 := hB1.froz 31
  have kl := hB1.lt
  clear kf
  have z0 := (HS.out.blk 0 rfl).cell 0
  have z1 := (HS.out.blk 0 rfl).cell 1
  have zl := (HS.out.blk 0 rfl).lt
  simp only [List.getElem?_cons_zero, List.getElem?_cons_succ] at z0 z1
  refine wp_region_fr [(1, [0, 1, 2, 3, 4, 5, 6, 7, 8, 9, 10, 11, 12, 13, 14, 15, 16, 17, 18, 19])] [] (by kernel_rfl) (by kernel_rfl) ?_
  simp only [theOps, nthOp, List.map_cons, List.map_nil, Array.getD_eq_getD_getElem?, List.getElem?_toArray, List.getElem?_cons_succ, List.getElem?_cons_zero, Option.getD_some]
  repeat ((first | refine wpSegs_soft ?_ | refine wpSegs_pure ?_ | refine wpSegs_here ?_); (repeat (first | go_big_quiet_step (fail) | quiet_step (fail))); refine wpQuiet_nil ?_)
  refine wpSegs_done ?_
  go_wp2_with fail
  go_end0
  exact ⟨rfl, HTO.out _ _ _ _ (by omega) HLN.out.symm HS.out.tail.tail⟩
set_option maxRecDepth 100000 in
set_option maxHeartbeats 8000000 in
theorem ptell_stale {w0 w : World} {R : List Thing} (b : Nat) (c : Cfg) (hok : Y.Ok c) (seq x s : Int) (ok : Bool) (hx : 0 ≤ x ∧ x ≤ 18446744073709551615) (pn : Int) (pf : Int → Int) (pwt pwl nt nl : Int) (lim : List Int) (ps : Int) (hp : P.Ok c ⟨pn, pf, pwt, pwl, nt, nl, lim, ps⟩) (h0 : ps = 0) (h1 : c.t ≤ pn) (h2 : seq < s) (hS : Sep w0 w (poolT c seq b ⟨pn, pf, pwt, pwl, nt, nl, lim, ps⟩ :: R)) :
    Calls Try.prog 30 #[.pointer (some ⟨b, 0, none⟩), .agg #[.int .u64 x, .int .u64 s, .bool ok]] w fun e w' => e = .returned (.tuple #[]) ∧ Sep w0 w' (poolT c seq b ⟨pn, pf, pwt, pwl, nt, nl, lim, 2⟩ :: R) := by
  obtain ⟨mb, la, lc, h2⟩ := poolT_of hS
  have HTO := Lib.hid (fun (w' : World) (n k : Nat) (v : Value) hn hk hS => poolT_to (w0 := w0) (w := w') (R := R) (c := c) (seq := seq) (b := b) (mb := mb) (n := n) (k := k) (v := v) (p := ⟨pn, pf, pwt, pwl, nt, nl, lim, 2⟩) hn hk hS)
  generalize poolT c seq b ⟨pn, pf, pwt, pwl, nt, nl, lim, 2⟩ = TH at *
  have hnb := hp.next
  have hsb := hp.s
  have hfb := hp.f
  have hwt := hp.wt
  have hwl := hp.wl
  have hll := hp.len
  have hlm := limit_pos hok
  have ht8 := hok.t8
  have ht1 := hok.t1
  have hb1 := hok.b1
  have hb64 := hok.b64
  have hsz : (mapCells c).length = 24 := rfl
  have HCF := Lib.hid (fun w => pcfg_any w c)
  have HFD := Lib.hid (fun w => cfgV_field c w)
  have HLI := Lib.hid (fun w => limit_any w c hok)
  unfold mapV at *
  generalize hcf : cfgV c = cf at *
  clear hcf
  generalize mapCells c = cs at *
  dsimp only at h2 hnb hsb hfb hwt hwl hll HTO
  obtain ⟨ln, hln⟩ : ∃ ln : Nat, lim.length = ln := ⟨_, rfl⟩
  rw [hln] at h2 hll
  have HLN := Lib.hid hln
  have HS := Lib.hid (h2.new 55 [.int .u64 x, .int .u64 s, .bool ok])
  clear h2 hS hp hln
  have hq := HS.out.blk 1 rfl
  have o0 := (HS.out.blk 0 rfl).cell 0
  have o1 := (HS.out.blk 0 rfl).cell 1
  have ol := (HS.out.blk 0 rfl).lt
  simp only [List.getElem?_cons_zero, List.getElem?_cons_succ] at o0 o1
  unfold P.poolL at hq
  go_enter Try.func30, Try.ntmps30
  go_wp2_with (refine wpList_load_any 31 _ rfl rfl _ 0 rfl cs _ (Blk.pre hq) Try.underlying31 rfl (by rw [hsz]; kernel_rfl) ?_)
  refine (HCF.out _).mono ?_
  rintro e w2 ⟨rfl, hf⟩
  have HS1 := Lib.hid (HS.out.fr0 hf); clear hf hq o0 o1 ol
  have o0 := (HS1.out.blk 0 rfl).cell 0
  have o1 := (HS1.out.blk 0 rfl).cell 1
  have ol := (HS1.out.blk 0 rfl).lt
  simp only [List.getElem?_cons_zero, List.getElem?_cons_succ] at o0 o1
  have HS := Lib.hid (HS1.out.new 41 [.int .u64 x, .int .u64 s]); clear HS1
  have hfl := fun w => (HFD.out w).1
  have hB1 := HS.out.blk 2 rfl
  have kf := P.pf hsz seq (.map (some mb)) (.slice la ln lc) ⟨pn, pf, pwt, pwl, nt, nl, lim, ps⟩
  have k24 := (hB1.cell 24).trans kf.seq
  have k25 := (hB1.cell 25).trans kf.next
  have k26 := (hB1.cell 26).trans kf.mp
  have k27 := (hB1.cell 27).trans kf.wt
  have k28 := (hB1.cell 28).trans kf.wl
  have k31 := (hB1.cell 31).trans kf.lim
  have k32 := (hB1.cell 32).trans kf.s
  have f25 := hB1.froz 25
  have f32 := hB1.froz 32
  have f27 := hB1.froz 27
  have f28 := hB1.froz 28
  have f31 := hB1.froz 31
  have kl := hB1.lt
  clear kf
  have z0 := (HS.out.blk 0 rfl).cell 0
  have z1 := (HS.out.blk 0 rfl).cell 1
  have zl := (HS.out.blk 0 rfl).lt
  simp only [List.getElem?_cons_zero, List.getElem?_cons_succ] at z0 z1
  subst h0
  have d1 : decide (pn < c.t) = false := by simp; omega
  have d2 : decide (s > seq) = true := by simp; omega
  go_wp2_with fail
  refine wp_region_fr [(1, [0, 1, 2, 3, 4, 5, 6, 7])] [] (by kernel_rfl) (by kernel_rfl) ?_
  simp only [theOps, nthOp, List.map_cons, List.map_nil, Array.getD_eq_getD_getElem?, List.getElem?_toArray, List.getElem?_cons_succ, List.getElem?_cons_zero, Option.getD_some]
  repeat ((first | refine wpSegs_soft ?_ | refine wpSegs_pure ?_ | refine wpSegs_here ?_); (repeat (first | go_big_quiet_step (fail) | quiet_step (fail))); refine wpQuiet_nil ?_)
  refine wpSegs_done ?_
  have HS := Lib.hid HS.out.drew
  clear hB1 k24 k25 k26 k27 k28 k31 k32 f25 f32 f27 f28 f31 kl z0 z1 zl
  have hB1 := HS.out.blk 2 rfl
  have kf := P.pf hsz seq (.map (some mb)) (.slice la ln lc) ⟨pn, pf, pwt, pwl, nt, nl, lim, 0⟩
  have k24 := (hB1.cell 24).trans kf.seq
  have k25 := (hB1.cell 25).trans kf.next
  have k26 := (hB1.cell 26).trans kf.mp
  have k27 := (hB1.cell 27).trans kf.wt
  have k28 := (hB1.cell 28).trans kf.wl
  have k31 := (hB1.cell 31).trans kf.lim
  have k32 := (hB1.cell 32).trans kf.s
  have f25 := hB1.froz 25
  have f32 := hB1.froz 32
  have f27 := hB1.froz 27
  have f28 := hB1.froz 28
  have f31 := hB1.froz 31
  have kl := hB1.lt
  clear kf
  have z0 := (HS.out.blk 0 rfl).cell 0
  have z1 := (HS.out.blk 0 rfl).cell 1
  have zl := (HS.out.blk 0 rfl).lt
  simp only [List.getElem?_cons_zero, List.getElem?_cons_succ] at z0 z1
  have hS2 := HS.out.set 2 rfl 32 (.int .i64 2)
  simp only [List.set_cons_zero, List.set_cons_succ, P.poolL_s hsz] at hS2
  have HS2 := Lib.hid hS2; clear hS2
  go_wp2_with fail
  refine bodyPost_ret (v := .tuple #[]) (by simp [results, Try.results30, go_sem]) rfl ?_
  exact ⟨rfl, HTO.out _ _ _ _ (Nat.le_refl _) HLN.out.symm HS2.out.tail.tail⟩
set_option maxRecDepth 100000 in
set_option maxHeartbeats 8000000 in
theorem ptell_top {w0 w : World} {R : List Thing} (b : Nat) (c : Cfg) (hok : Y.Ok c) (seq x s : Int) (ok : Bool) (hx : 0 ≤ x ∧ x ≤ 18446744073709551615) (pn : Int) (pf : Int → Int) (pwt pwl nt nl : Int) (lim : List Int) (ps : Int) (hp : P.Ok c ⟨pn, pf, pwt, pwl, nt, nl, lim, ps⟩) (h0 : ps = 0) (h1 : pn = c.t) (h2 : s ≤ seq) (hS : Sep w0 w (poolT c seq b ⟨pn, pf, pwt, pwl, nt, nl, lim, ps⟩ :: R)) :
    Calls Try.prog 30 #[.pointer (some ⟨b, 0, none⟩), .agg #[.int .u64 x, .int .u64 s, .bool ok]] w fun e w' => e = .returned (.tuple #[]) ∧ Sep w0 w' (poolT c seq b ⟨pn + 1, pf, min x c.b, pwl, nt, nl, lim, 0⟩ :: R) := by
  obtain ⟨mb, la, lc, h2⟩ := poolT_of hS
  have HTO := Lib.hid (fun (w' : World) (n k : Nat) (v : Value) hn hk hS => poolT_to (w0 := w0) (w := w') (R := R) (c := c) (seq := seq) (b := b) (mb := mb) (n := n) (k := k) (v := v) (p := ⟨pn + 1, pf, min x c.b, pwl, nt, nl, lim, 0⟩) hn hk hS)
  generalize poolT c seq b ⟨pn + 1, pf, min x c.b, pwl, nt, nl, lim, 0⟩ = TH at *
  have hnb := hp.next
  have hsb := hp.s
  have hfb := hp.f
  have hwt := hp.wt
  have hwl := hp.wl
  have hll := hp.len
  have hlm := limit_pos hok
  have ht8 := hok.t8
  have ht1 := hok.t1
  have hb1 := hok.b1
  have hb64 := hok.b64
  have hsz : (mapCells c).length = 24 := rfl
  have HCF := Lib.hid (fun w => pcfg_any w c)
  have HFD := Lib.hid (fun w => cfgV_field c w)
  have HLI := Lib.hid (fun w => limit_any w c hok)
  unfold mapV at *
  generalize hcf : cfgV c = cf at *
  clear hcf
  generalize mapCells c = cs at *
  dsimp only at h2 hnb hsb hfb hwt hwl hll HTO
  obtain ⟨ln, hln⟩ : ∃ ln : Nat, lim.length = ln := ⟨_, rfl⟩
  rw [hln] at h2 hll
  have HLN := Lib.hid hln
  have HS := Lib.hid (h2.new 55 [.int .u64 x, .int .u64 s, .bool ok])
  clear h2 hS hp hln
  have hq := HS.out.blk 1 rfl
  have o0 := (HS.out.blk 0 rfl).cell 0
  have o1 := (HS.out.blk 0 rfl).cell 1
  have ol := (HS.out.blk 0 rfl).lt
  simp only [List.getElem?_cons_zero, List.getElem?_cons_succ] at o0 o1
  unfold P.poolL at hq
  go_enter Try.func30, Try.ntmps30
  go_wp2_with (refine wpList_load_any 31 _ rfl rfl _ 0 rfl cs _ (Blk.pre hq) Try.underlying31 rfl (by rw [hsz]; kernel_rfl) ?_)
  refine (HCF.out _).mono ?_
  rintro e w2 ⟨rfl, hf⟩
  have HS1 := Lib.hid (HS.out.fr0 hf); clear hf hq o0 o1 ol
  have o0 := (HS1.out.blk 0 rfl).cell 0
  have o1 := (HS1.out.blk 0 rfl).cell 1
  have ol := (HS1.out.blk 0 rfl).lt
  simp only [List.getElem?_cons_zero, List.getElem?_cons_succ] at o0 o1
  have HS := Lib.hid (HS1.out.new 41 [.int .u64 x, .int .u64 s]); clear HS1
  have hfl := fun w => (HFD.out w).1
  have hB1 := HS.out.blk 2 rfl
  have kf := P.pf hsz seq (.map (some mb)) (.slice la ln lc) ⟨pn, pf, pwt, pwl, nt, nl, lim, ps⟩
  have k24 := (hB1.cell 24).trans kf.seq
  have k25 := (hB1.cell 25).trans kf.next
  have k26 := (hB1.cell 26).trans kf.mp
  have k27 := (hB1.cell 27).trans kf.wt
  have k28 := (hB1.cell 28).trans kf.wl
  have k31 := (hB1.cell 31).trans kf.lim
  have k32 := (hB1.cell 32).trans kf.s
  have f25 := hB1.froz 25
  have f32 := hB1.froz 32
  have f27 := hB1.froz 27
  have f28 := hB1.froz 28
  have f31 := hB1.froz 31
  have kl := hB1.lt
  clear kf
  have z0 := (HS.out.blk 0 rfl).cell 0
  have z1 := (HS.out.blk 0 rfl).cell 1
  have zl := (HS.out.blk 0 rfl).lt
  simp only [List.getElem?_cons_zero, List.getElem?_cons_succ] at z0 z1
  subst h0
  have d1 : decide (pn < c.t) = false := by simp; omega
  have d2 : decide (s > seq) = false := by simp; omega
  go_wp2_with fail
  refine wp_region_fr [(1, [0, 1, 2, 3, 4, 5, 6, 7])] [] (by kernel_rfl) (by kernel_rfl) ?_
  simp only [theOps, nthOp, List.map_cons, List.map_nil, Array.getD_eq_getD_getElem?, List.getElem?_toArray, List.getElem?_cons_succ, List.getElem?_cons_zero, Option.getD_some]
  repeat ((first | refine wpSegs_soft ?_ | refine wpSegs_pure ?_ | refine wpSegs_here ?_); (repeat (first | go_big_quiet_step (fail) | quiet_step (fail))); refine wpQuiet_nil ?_)
  refine wpSegs_done ?_
  have HS := Lib.hid HS.out.drew
  clear hB1 k24 k25 k26 k27 k28 k31 k32 f25 f32 f27 f28 f31 kl z0 z1 zl
  have hB1 := HS.out.blk 2 rfl
  have kf := P.pf hsz seq (.map (some mb)) (.slice la ln lc) ⟨pn, pf, pwt, pwl, nt, nl, lim, 0⟩
  have k24 := (hB1.cell 24).trans kf.seq
  have k25 := (hB1.cell 25).trans kf.next
  have k26 := (hB1.cell 26).trans kf.mp
  have k27 := (hB1.cell 27).trans kf.wt
  have k28 := (hB1.cell 28).trans kf.wl
  have k31 := (hB1.cell 31).trans kf.lim
  have k32 := (hB1.cell 32).trans kf.s
  have f25 := hB1.froz 25
  have f32 := hB1.froz 32
  have f27 := hB1.froz 27
  have f28 := hB1.froz 28
  have f31 := hB1.froz 31
  have kl := hB1.lt
  clear kf
  have z0 := (HS.out.blk 0 rfl).cell 0
  have z1 := (HS.out.blk 0 rfl).cell 1
  have zl := (HS.out.blk 0 rfl).lt
  simp only [List.getElem?_cons_zero, List.getElem?_cons_succ] at z0 z1
  generalize hmn : min x c.b = mn at *
  have hmb : 0 ≤ mn ∧ mn ≤ c.b := by omega
  have hif : (if c.b < x then c.b else x) = mn := by rw [← hmn]; split <;> omega
  have hwb : IntKind.u64.wrap c.b = c.b := by rw [IntKind.wrap_u64]; omega
  have hwm : IntKind.i64.wrap mn = mn := wrap_i64_id _ (by omega) (by omega)
  clear hmn
  have hfb1 := fun w => (HFD.out w).2
  have d3 : (pn == c.t) = true := by simp; omega
  have d14 : decide (c.t < pn) = false := by simp; omega
  clear h1
  -- region 10: what is told, at most what HCF.out _ is: laid at $3
  go_wp2_with fail
  have hmd := hB1.drew
  unfold P.poolL at hmd
  refine wp_region_fr [(1, [0, 1, 2, 3, 4, 5, 6]), (2, [7]), (0, [8, 9, 10, 11, 12, 13, 14]), (3, [15])] [] (by kernel_rfl) (by kernel_rfl) ?_
  simp only [theOps, nthOp, List.map_cons, List.map_nil, Array.getD_eq_getD_getElem?, List.getElem?_toArray, List.getElem?_cons_succ, List.getElem?_cons_zero, Option.getD_some]
  refine wpSegs_soft ?_
  iterate 6 (first | go_big_quiet_step (fail) | quiet_step (fail))
  refine wpQuiet_load_mid 31 _ b 0 cs _ rfl rfl rfl (rangeAt_pre hmd (by simp)) Try.underlying31 rfl (by rw [hsz]; kernel_rfl) ?_
  simp only [Act.put, List.setIfInBounds_toArray, List.set_cons_zero, List.set_cons_succ]
  repeat (first | go_big_quiet_step (fail) | quiet_step (fail))
  refine wpQuiet_nil ?_
  refine wpSegs_keep ?_
  go_wp2_with fail
  refine (HCF.out _).mono ?_
  rintro e w4 ⟨rfl, hf⟩
  have HF := Lib.hid hf
  have HS := Lib.hid (HS.out.drew.fr0 hf); clear hf
  go_wp2_with fail
  refine ⟨⟨⟨_, (by exact HF.out)⟩, rfl⟩, ?_⟩
  repeat ((first | refine wpSegs_soft ?_ | refine wpSegs_pure ?_ | refine wpSegs_here ?_); (repeat (first | go_big_quiet_step (fail) | quiet_step (fail))); refine wpQuiet_nil ?_)
  clear hB1 k24 k25 k26 k27 k28 k31 k32 f25 f32 f27 f28 f31 kl z0 z1 zl
  have hB1 := HS.out.blk 2 rfl
  have kf := P.pf hsz seq (.map (some mb)) (.slice la ln lc) ⟨pn, pf, pwt, pwl, nt, nl, lim, 0⟩
  have k24 := (hB1.cell 24).trans kf.seq
  have k25 := (hB1.cell 25).trans kf.next
  have k26 := (hB1.cell 26).trans kf.mp
  have k27 := (hB1.cell 27).trans kf.wt
  have k28 := (hB1.cell 28).trans kf.wl
  have k31 := (hB1.cell 31).trans kf.lim
  have k32 := (hB1.cell 32).trans kf.s
  have f25 := hB1.froz 25
  have f32 := hB1.froz 32
  have f27 := hB1.froz 27
  have f28 := hB1.froz 28
  have f31 := hB1.froz 31
  have kl := hB1.lt
  clear kf
  have z0 := (HS.out.blk 0 rfl).cell 0
  have z1 := (HS.out.blk 0 rfl).cell 1
  have zl := (HS.out.blk 0 rfl).lt
  simp only [List.getElem?_cons_zero, List.getElem?_cons_succ] at z0 z1
  refine wpSegs_hard ?_
  have hS2 := HS.out.set 2 rfl 27 (.int .i64 (mn))
  simp only [List.set_cons_zero, List.set_cons_succ, P.poolL_wt hsz] at hS2
  go_wp2_with fail
  generalize World.setCell _ _ _ = w5 at hS2 ⊢
  refine wpSegs_done ?_
  clear hB1 k24 k25 k26 k27 k28 k31 k32 f25 f32 f27 f28 f31 kl z0 z1 zl
  have HS := Lib.hid hS2; clear hS2
  have hB1 := HS.out.blk 2 rfl
  have kf := P.pf hsz seq (.map (some mb)) (.slice la ln lc) ⟨pn, pf, mn, pwl, nt, nl, lim, 0⟩
  have k24 := (hB1.cell 24).trans kf.seq
  have k25 := (hB1.cell 25).trans kf.next
  have k26 := (hB1.cell 26).trans kf.mp
  have k27 := (hB1.cell 27).trans kf.wt
  have k28 := (hB1.cell 28).trans kf.wl
  have k31 := (hB1.cell 31).trans kf.lim
  have k32 := (hB1.cell 32).trans kf.s
  have f25 := hB1.froz 25
  have f32 := hB1.froz 32
  have f27 := hB1.froz 27
  have f28 := hB1.froz 28
  have f31 := hB1.froz 31
  have kl := hB1.lt
  clear kf
  have z0 := (HS.out.blk 0 rfl).cell 0
  have z1 := (HS.out.blk 0 rfl).cell 1
  have zl := (HS.out.blk 0 rfl).lt
  simp only [List.getElem?_cons_zero, List.getElem?_cons_succ] at z0 z1
  -- next goes up: state ⟨pn, pf, mn, pwl, nt, nl, lim, 0⟩ (slice la ln lc) becomes ⟨pn + 1, pf, mn, pwl, nt, nl, lim, 0⟩; is all read: not
  have hS2 := HS.out.set 2 rfl 25 (.int .i64 (pn + 1))
  simp only [List.set_cons_zero, List.set_cons_succ, P.poolL_next hsz] at hS2
  go_wp2_with fail
  generalize World.setCell _ _ _ = w5 at hS2 ⊢
  clear hB1 k24 k25 k26 k27 k28 k31 k32 f25 f32 f27 f28 f31 kl z0 z1 zl
  have HS := Lib.hid hS2.drew; clear hS2
  have hB1 := HS.out.blk 2 rfl
  have kf := P.pf hsz seq (.map (some mb)) (.slice la ln lc) ⟨pn + 1, pf, mn, pwl, nt, nl, lim, 0⟩
  have k24 := (hB1.cell 24).trans kf.seq
  have k25 := (hB1.cell 25).trans kf.next
  have k26 := (hB1.cell 26).trans kf.mp
  have k27 := (hB1.cell 27).trans kf.wt
  have k28 := (hB1.cell 28).trans kf.wl
  have k31 := (hB1.cell 31).trans kf.lim
  have k32 := (hB1.cell 32).trans kf.s
  have f25 := hB1.froz 25
  have f32 := hB1.froz 32
  have f27 := hB1.froz 27
  have f28 := hB1.froz 28
  have f31 := hB1.froz 31
  have kl := hB1.lt
  clear kf
  have z0 := (HS.out.blk 0 rfl).cell 0
  have z1 := (HS.out.blk 0 rfl).cell 1
  have zl := (HS.out.blk 0 rfl).lt
  simp only [List.getElem?_cons_zero, List.getElem?_cons_succ] at z0 z1
  refine wp_region_fr [(1, [0, 1, 2, 3, 4, 5, 6, 7, 8, 9, 10, 11, 12, 13, 14, 15, 16, 17, 18, 19])] [] (by kernel_rfl) (by kernel_rfl) ?_
  simp only [theOps, nthOp, List.map_cons, List.map_nil, Array.getD_eq_getD_getElem?, List.getElem?_toArray, List.getElem?_cons_succ, List.getElem?_cons_zero, Option.getD_some]
  repeat ((first | refine wpSegs_soft ?_ | refine wpSegs_pure ?_ | refine wpSegs_here ?_); (repeat (first | go_big_quiet_step (fail) | quiet_step (fail))); refine wpQuiet_nil ?_)
  refine wpSegs_done ?_
  go_wp2_with fail
  go_end0
  exact ⟨rfl, HTO.out _ _ _ _ (by omega) HLN.out.symm HS.out.tail.tail⟩
set_option maxRecDepth 100000 in
set_option maxHeartbeats 8000000 in
theorem ptell_limB {w0 w : World} {R : List Thing} (b : Nat) (c : Cfg) (hok : Y.Ok c) (seq x s : Int) (ok : Bool) (hx : 0 ≤ x ∧ x ≤ 18446744073709551615) (pn : Int) (pf : Int → Int) (pwt pwl nt nl : Int) (lim : List Int) (ps : Int) (hp : P.Ok c ⟨pn, pf, pwt, pwl, nt, nl, lim, ps⟩) (h0 : ps = 0) (h1 : pn = c.t + 1) (h2 : s ≤ seq) (h3 : (lim.length : Int) ≠ min x (limit c)) (hS : Sep w0 w (poolT c seq b ⟨pn, pf, pwt, pwl, nt, nl, lim, ps⟩ :: R)) :
    Calls Try.prog 30 #[.pointer (some ⟨b, 0, none⟩), .agg #[.int .u64 x, .int .u64 s, .bool ok]] w fun e w' => e = .returned (.tuple #[]) ∧ Sep w0 w' (poolT c seq b ⟨pn + 1, pf, pwt, min x (limit c), nt, nl, lim, 0⟩ :: R) := by
  obtain ⟨mb, la, lc, h2⟩ := poolT_of hS
  have HTO := Lib.hid (fun (w' : World) (n k : Nat) (v : Value) hn hk hS => poolT_to (w0 := w0) (w := w') (R := R) (c := c) (seq := seq) (b := b) (mb := mb) (n := n) (k := k) (v := v) (p := ⟨pn + 1, pf, pwt, min x (limit c), nt, nl, lim, 0⟩) hn hk hS)
  generalize poolT c seq b ⟨pn + 1, pf, pwt, min x (limit c), nt, nl, lim, 0⟩ = TH at *
  have hnb := hp.next
  have hsb := hp.s
  have hfb := hp.f
  have hwt := hp.wt
  have hwl := hp.wl
  have hll := hp.len
  have hlm := limit_pos hok
  have ht8 := hok.t8
  have ht1 := hok.t1
  have hb1 := hok.b1
  have hb64 := hok.b64
  have hsz : (mapCells c).length = 24 := rfl
  have HCF := Lib.hid (fun w => pcfg_any w c)
  have HFD := Lib.hid (fun w => cfgV_field c w)
  have HLI := Lib.hid (fun w => limit_any w c hok)
  unfold mapV at *
  generalize hcf : cfgV c = cf at *
  clear hcf
  generalize mapCells c = cs at *
  dsimp only at h2 hnb hsb hfb hwt hwl hll HTO
  obtain ⟨ln, hln⟩ : ∃ ln : Nat, lim.length = ln := ⟨_, rfl⟩
  rw [hln] at h2 hll
  have HLN := Lib.hid hln
  have HS := Lib.hid (h2.new 55 [.int .u64 x, .int .u64 s, .bool ok])
  clear h2 hS hp hln
  have hq := HS.out.blk 1 rfl
  have o0 := (HS.out.blk 0 rfl).cell 0
  have o1 := (HS.out.blk 0 rfl).cell 1
  have ol := (HS.out.blk 0 rfl).lt
  simp only [List.getElem?_cons_zero, List.getElem?_cons_succ] at o0 o1
  unfold P.poolL at hq
  go_enter Try.func30, Try.ntmps30
  go_wp2_with (refine wpList_load_any 31 _ rfl rfl _ 0 rfl cs _ (Blk.pre hq) Try.underlying31 rfl (by rw [hsz]; kernel_rfl) ?_)
  refine (HCF.out _).mono ?_
  rintro e w2 ⟨rfl, hf⟩
  have HS1 := Lib.hid (HS.out.fr0 hf); clear hf hq o0 o1 ol
  have o0 := (HS1.out.blk 0 rfl).cell 0
  have o1 := (HS1.out.blk 0 rfl).cell 1
  have ol := (HS1.out.blk 0 rfl).lt
  simp only [List.getElem?_cons_zero, List.getElem?_cons_succ] at o0 o1
  have HS := Lib.hid (HS1.out.new 41 [.int .u64 x, .int .u64 s]); clear HS1
  have hfl := fun w => (HFD.out w).1
  have hB1 := HS.out.blk 2 rfl
  have kf := P.pf hsz seq (.map (some mb)) (.slice la ln lc) ⟨pn, pf, pwt, pwl, nt, nl, lim, ps⟩
  have k24 := (hB1.cell 24).trans kf.seq
  have k25 := (hB1.cell 25).trans kf.next
  have k26 := (hB1.cell 26).trans kf.mp
  have k27 := (hB1.cell 27).trans kf.wt
  have k28 := (hB1.cell 28).trans kf.wl
  have k31 := (hB1.cell 31).trans kf.lim
  have k32 := (hB1.cell 32).trans kf.s
  have f25 := hB1.froz 25
  have f32 := hB1.froz 32
  have f27 := hB1.froz 27
  have f28 := hB1.froz 28
  have f31 := hB1.froz 31
  have kl := hB1.lt
  clear kf
  have z0 := (HS.out.blk 0 rfl).cell 0
  have z1 := (HS.out.blk 0 rfl).cell 1
  have zl := (HS.out.blk 0 rfl).lt
  simp only [List.getElem?_cons_zero, List.getElem?_cons_succ] at z0 z1
  subst h0
  have d1 : decide (pn < c.t) = false := by simp; omega
  have d2 : decide (s > seq) = false := by simp; omega
  go_wp2_with fail
  refine wp_region_fr [(1, [0, 1, 2, 3, 4, 5, 6, 7])] [] (by kernel_rfl) (by kernel_rfl) ?_
  simp only [theOps, nthOp, List.map_cons, List.map_nil, Array.getD_eq_getD_getElem?, List.getElem?_toArray, List.getElem?_cons_succ, List.getElem?_cons_zero, Option.getD_some]
  repeat ((first | refine wpSegs_soft ?_ | refine wpSegs_pure ?_ | refine wpSegs_here ?_); (repeat (first | go_big_quiet_step (fail) | quiet_step (fail))); refine wpQuiet_nil ?_)
  refine wpSegs_done ?_
  have HS := Lib.hid HS.out.drew
  clear hB1 k24 k25 k26 k27 k28 k31 k32 f25 f32 f27 f28 f31 kl z0 z1 zl
  have hB1 := HS.out.blk 2 rfl
  have kf := P.pf hsz seq (.map (some mb)) (.slice la ln lc) ⟨pn, pf, pwt, pwl, nt, nl, lim, 0⟩
  have k24 := (hB1.cell 24).trans kf.seq
  have k25 := (hB1.cell 25).trans kf.next
  have k26 := (hB1.cell 26).trans kf.mp
  have k27 := (hB1.cell 27).trans kf.wt
  have k28 := (hB1.cell 28).trans kf.wl
  have k31 := (hB1.cell 31).trans kf.lim
  have k32 := (hB1.cell 32).trans kf.s
  have f25 := hB1.froz 25
  have f32 := hB1.froz 32
  have f27 := hB1.froz 27
  have f28 := hB1.froz 28
  have f31 := hB1.froz 31
  have kl := hB1.lt
  clear kf
  have z0 := (HS.out.blk 0 rfl).cell 0
  have z1 := (HS.out.blk 0 rfl).cell 1
  have zl := (HS.out.blk 0 rfl).lt
  simp only [List.getElem?_cons_zero, List.getElem?_cons_succ] at z0 z1
  generalize hlc : limit c = lk at *
  generalize hmn : min x lk = mn at *
  have hmb : 0 ≤ mn ∧ mn ≤ lk := by omega
  have hif : (if lk < x then lk else x) = mn := by rw [← hmn]; split <;> omega
  have hwb : IntKind.u64.wrap lk = lk := by rw [IntKind.wrap_u64]; omega
  have hwm : IntKind.i64.wrap mn = mn := wrap_i64_id _ (by omega) (by omega)
  clear hmn
  have d3 : (pn == c.t) = false := by simp; omega
  have d4 : (pn == c.t + 1) = true := by simp; omega
  have d14 : decide (c.t < pn) = true := by simp; omega
  rw [HLN.out] at h3
  have d15 : ((ln : Int) == mn) = false := by simpa using h3
  clear h1 h3
  -- region 12: what is told, at most what HLI.out _ is: laid at $3
  go_wp2_with fail
  have hmd := hB1.drew
  unfold P.poolL at hmd
  refine wp_region_fr [(1, [0, 1, 2, 3, 4, 5, 6]), (2, [7]), (0, [8, 9, 10, 11, 12, 13]), (3, [14])] [] (by kernel_rfl) (by kernel_rfl) ?_
  simp only [theOps, nthOp, List.map_cons, List.map_nil, Array.getD_eq_getD_getElem?, List.getElem?_toArray, List.getElem?_cons_succ, List.getElem?_cons_zero, Option.getD_some]
  refine wpSegs_soft ?_
  iterate 6 (first | go_big_quiet_step (fail) | quiet_step (fail))
  refine wpQuiet_load_mid 31 _ b 0 cs _ rfl rfl rfl (rangeAt_pre hmd (by simp)) Try.underlying31 rfl (by rw [hsz]; kernel_rfl) ?_
  simp only [Act.put, List.setIfInBounds_toArray, List.set_cons_zero, List.set_cons_succ]
  repeat (first | go_big_quiet_step (fail) | quiet_step (fail))
  refine wpQuiet_nil ?_
  refine wpSegs_keep ?_
  go_wp2_with fail
  refine (HLI.out _).mono ?_
  rintro e w4 ⟨rfl, hf⟩
  have HF := Lib.hid hf
  have HS := Lib.hid (HS.out.drew.fr0 hf); clear hf
  go_wp2_with fail
  refine ⟨⟨⟨_, (by exact HF.out)⟩, rfl⟩, ?_⟩
  repeat ((first | refine wpSegs_soft ?_ | refine wpSegs_pure ?_ | refine wpSegs_here ?_); (repeat (first | go_big_quiet_step (fail) | quiet_step (fail))); refine wpQuiet_nil ?_)
  clear hB1 k24 k25 k26 k27 k28 k31 k32 f25 f32 f27 f28 f31 kl z0 z1 zl
  have hB1 := HS.out.blk 2 rfl
  have kf := P.pf hsz seq (.map (some mb)) (.slice la ln lc) ⟨pn, pf, pwt, pwl, nt, nl, lim, 0⟩
  have k24 := (hB1.cell 24).trans kf.seq
  have k25 := (hB1.cell 25).trans kf.next
  have k26 := (hB1.cell 26).trans kf.mp
  have k27 := (hB1.cell 27).trans kf.wt
  have k28 := (hB1.cell 28).trans kf.wl
  have k31 := (hB1.cell 31).trans kf.lim
  have k32 := (hB1.cell 32).trans kf.s
  have f25 := hB1.froz 25
  have f32 := hB1.froz 32
  have f27 := hB1.froz 27
  have f28 := hB1.froz 28
  have f31 := hB1.froz 31
  have kl := hB1.lt
  clear kf
  have z0 := (HS.out.blk 0 rfl).cell 0
  have z1 := (HS.out.blk 0 rfl).cell 1
  have zl := (HS.out.blk 0 rfl).lt
  simp only [List.getElem?_cons_zero, List.getElem?_cons_succ] at z0 z1
  refine wpSegs_hard ?_
  have hS2 := HS.out.set 2 rfl 28 (.int .i64 (mn))
  simp only [List.set_cons_zero, List.set_cons_succ, P.poolL_wl hsz] at hS2
  go_wp2_with fail
  generalize World.setCell _ _ _ = w5 at hS2 ⊢
  refine wpSegs_done ?_
  clear hB1 k24 k25 k26 k27 k28 k31 k32 f25 f32 f27 f28 f31 kl z0 z1 zl
  have HS := Lib.hid hS2; clear hS2
  have hB1 := HS.out.blk 2 rfl
  have kf := P.pf hsz seq (.map (some mb)) (.slice la ln lc) ⟨pn, pf, pwt, mn, nt, nl, lim, 0⟩
  have k24 := (hB1.cell 24).trans kf.seq
  have k25 := (hB1.cell 25).trans kf.next
  have k26 := (hB1.cell 26).trans kf.mp
  have k27 := (hB1.cell 27).trans kf.wt
  have k28 := (hB1.cell 28).trans kf.wl
  have k31 := (hB1.cell 31).trans kf.lim
  have k32 := (hB1.cell 32).trans kf.s
  have f25 := hB1.froz 25
  have f32 := hB1.froz 32
  have f27 := hB1.froz 27
  have f28 := hB1.froz 28
  have f31 := hB1.froz 31
  have kl := hB1.lt
  clear kf
  have z0 := (HS.out.blk 0 rfl).cell 0
  have z1 := (HS.out.blk 0 rfl).cell 1
  have zl := (HS.out.blk 0 rfl).lt
  simp only [List.getElem?_cons_zero, List.getElem?_cons_succ] at z0 z1
  -- next goes up: state ⟨pn, pf, pwt, mn, nt, nl, lim, 0⟩ (slice la ln lc) becomes ⟨pn + 1, pf, pwt, mn, nt, nl, lim, 0⟩; is all read: not
  have hS2 := HS.out.set 2 rfl 25 (.int .i64 (pn + 1))
  simp only [List.set_cons_zero, List.set_cons_succ, P.poolL_next hsz] at hS2
  go_wp2_with fail
  generalize World.setCell _ _ _ = w5 at hS2 ⊢
  clear hB1 k24 k25 k26 k27 k28 k31 k32 f25 f32 f27 f28 f31 kl z0 z1 zl
  have HS := Lib.hid hS2.drew; clear hS2
  have hB1 := HS.out.blk 2 rfl
  have kf := P.pf hsz seq (.map (some mb)) (.slice la ln lc) ⟨pn + 1, pf, pwt, mn, nt, nl, lim, 0⟩
  have k24 := (hB1.cell 24).trans kf.seq
  have k25 := (hB1.cell 25).trans kf.next
  have k26 := (hB1.cell 26).trans kf.mp
  have k27 := (hB1.cell 27).trans kf.wt
  have k28 := (hB1.cell 28).trans kf.wl
  have k31 := (hB1.cell 31).trans kf.lim
  have k32 := (hB1.cell 32).trans kf.s
  have f25 := hB1.froz 25
  have f32 := hB1.froz 32
  have f27 := hB1.froz 27
  have f28 := hB1.froz 28
  have f31 := hB1.froz 31
  have kl := hB1.lt
  clear kf
  have z0 := (HS.out.blk 0 rfl).cell 0
  have z1 := (HS.out.blk 0 rfl).cell 1
  have zl := (HS.out.blk 0 rfl).lt
  simp only [List.getElem?_cons_zero, List.getElem?_cons_succ] at z0 z1
  refine wp_region_fr [(1, [0, 1, 2, 3, 4, 5, 6, 7, 8, 9, 10, 11, 12, 13, 14, 15, 16, 17, 18, 19])] [] (by kernel_rfl) (by kernel_rfl) ?_
  simp only [theOps, nthOp, List.map_cons, List.map_nil, Array.getD_eq_getD_getElem?, List.getElem?_toArray, List.getElem?_cons_succ, List.getElem?_cons_zero, Option.getD_some]
  repeat ((first | refine wpSegs_soft ?_ | refine wpSegs_pure ?_ | refine wpSegs_here ?_); (repeat (first | go_big_quiet_step (fail) | quiet_step (fail))); refine wpQuiet_nil ?_)
  refine wpSegs_done ?_
  go_wp2_with fail
  go_end0
  exact ⟨rfl, HTO.out _ _ _ _ (by omega) HLN.out.symm HS.out.tail.tail⟩
set_option maxRecDepth 100000 in
set_option maxHeartbeats 8000000 in
theorem ptell_limA {w0 w : World} {R : List Thing} (b : Nat) (c : Cfg) (hok : Y.Ok c) (seq x s : Int) (ok : Bool) (hx : 0 ≤ x ∧ x ≤ 18446744073709551615) (pn : Int) (pf : Int → Int) (pwt pwl nt nl : Int) (lim : List Int) (ps : Int) (hp : P.Ok c ⟨pn, pf, pwt, pwl, nt, nl, lim, ps⟩) (h0 : ps = 0) (h1 : pn = c.t + 1) (h2 : s ≤ seq) (h3 : (lim.length : Int) = min x (limit c)) (hS : Sep w0 w (poolT c seq b ⟨pn, pf, pwt, pwl, nt, nl, lim, ps⟩ :: R)) :
    Calls Try.prog 30 #[.pointer (some ⟨b, 0, none⟩), .agg #[.int .u64 x, .int .u64 s, .bool ok]] w fun e w' => e = .returned (.tuple #[]) ∧ Sep w0 w' (poolT c seq b ⟨pn + 1, pf, pwt, min x (limit c), pwt, min x (limit c), lim, 1⟩ :: R) := by
  obtain ⟨mb, la, lc, h2⟩ := poolT_of hS
  have HTO := Lib.hid (fun (w' : World) (n k : Nat) (v : Value) hn hk hS => poolT_to (w0 := w0) (w := w') (R := R) (c := c) (seq := seq) (b := b) (mb := mb) (n := n) (k := k) (v := v) (p := ⟨pn + 1, pf, pwt, min x (limit c), pwt, min x (limit c), lim, 1⟩) hn hk hS)
  generalize poolT c seq b ⟨pn + 1, pf, pwt, min x (limit c), pwt, min x (limit c), lim, 1⟩ = TH at *
  have hnb := hp.next
  have hsb := hp.s
  have hfb := hp.f
  have hwt := hp.wt
  have hwl := hp.wl
  have hll := hp.len
  have hlm := limit_pos hok
  have ht8 := hok.t8
  have ht1 := hok.t1
  have hb1 := hok.b1
  have hb64 := hok.b64
  have hsz : (mapCells c).length = 24 := rfl
  have HCF := Lib.hid (fun w => pcfg_any w c)
  have HFD := Lib.hid (fun w => cfgV_field c w)
  have HLI := Lib.hid (fun w => limit_any w c hok)
  unfold mapV at *
  generalize hcf : cfgV c = cf at *
  clear hcf
  generalize mapCells c = cs at *
  dsimp only at h2 hnb hsb hfb hwt hwl hll HTO
  obtain ⟨ln, hln⟩ : ∃ ln : Nat, lim.length = ln := ⟨_, rfl⟩
  rw [hln] at h2 hll
  have HLN := Lib.hid hln
  have HS := Lib.hid (h2.new 55 [.int .u64 x, .int .u64 s, .bool ok])
  clear h2 hS hp hln
  have hq := HS.out.blk 1 rfl
  have o0 := (HS.out.blk 0 rfl).cell 0
  have o1 := (HS.out.blk 0 rfl).cell 1
  have ol := (HS.out.blk 0 rfl).lt
  simp only [List.getElem?_cons_zero, List.getElem?_cons_succ] at o0 o1
  unfold P.poolL at hq
  go_enter Try.func30, Try.ntmps30
  go_wp2_with (refine wpList_load_any 31 _ rfl rfl _ 0 rfl cs _ (Blk.pre hq) Try.underlying31 rfl (by rw [hsz]; kernel_rfl) ?_)
  refine (HCF.out _).mono ?_
  rintro e w2 ⟨rfl, hf⟩
  have HS1 := Lib.hid (HS.out.fr0 hf); clear hf hq o0 o1 ol
  have o0 := (HS1.out.blk 0 rfl).cell 0
  have o1 := (HS1.out.blk 0 rfl).cell 1
  have ol := (HS1.out.blk 0 rfl).lt
  simp only [List.getElem?_cons_zero, List.getElem?_cons_succ] at o0 o1
  have HS := Lib.hid (HS1.out.new 41 [.int .u64 x, .int .u64 s]); clear HS1
  have hfl := fun w => (HFD.out w).1
  have hB1 := HS.out.blk 2 rfl
  have kf := P.pf hsz seq (.map (some mb)) (.slice la ln lc) ⟨pn, pf, pwt, pwl, nt, nl, lim, ps⟩
  have k24 := (hB1.cell 24).trans kf.seq
  have k25 := (hB1.cell 25).trans kf.next
  have k26 := (hB1.cell 26).trans kf.mp
  have k27 := (hB1.cell 27).trans kf.wt
  have k28 := (hB1.cell 28).trans kf.wl
  have k31 := (hB1.cell 31).trans kf.lim
  have k32 := (hB1.cell 32).trans kf.s
  have f25 := hB1.froz 25
  have f32 := hB1.froz 32
  have f27 := hB1.froz 27
  have f28 := hB1.froz 28
  have f31 := hB1.froz 31
  have kl := hB1.lt
  clear kf
  have z0 := (HS.out.blk 0 rfl).cell 0
  have z1 := (HS.out.blk 0 rfl).cell 1
  have zl := (HS.out.blk 0 rfl).lt
  simp only [List.getElem?_cons_zero, List.getElem?_cons_succ] at z0 z1
  subst h0
  have d1 : decide (pn < c.t) = false := by simp; omega
  have d2 : decide (s > seq) = false := by simp; omega
  go_wp2_with fail
  refine wp_region_fr [(1, [0, 1, 2, 3, 4, 5, 6, 7])] [] (by kernel_rfl) (by kernel_rfl) ?_
  simp only [theOps, nthOp, List.map_cons, List.map_nil, Array.getD_eq_getD_getElem?, List.getElem?_toArray, List.getElem?_cons_succ, List.getElem?_cons_zero, Option.getD_some]
  repeat ((first | refine wpSegs_soft ?_ | refine wpSegs_pure ?_ | refine wpSegs_here ?_); (repeat (first | go_big_quiet_step (fail) | quiet_step (fail))); refine wpQuiet_nil ?_)
  refine wpSegs_done ?_
  have HS := Lib.hid HS.out.drew
  clear hB1 k24 k25 k26 k27 k28 k31 k32 f25 f32 f27 f28 f31 kl z0 z1 zl
  have hB1 := HS.out.blk 2 rfl
  have kf := P.pf hsz seq (.map (some mb)) (.slice la ln lc) ⟨pn, pf, pwt, pwl, nt, nl, lim, 0⟩
  have k24 := (hB1.cell 24).trans kf.seq
  have k25 := (hB1.cell 25).trans kf.next
  have k26 := (hB1.cell 26).trans kf.mp
  have k27 := (hB1.cell 27).trans kf.wt
  have k28 := (hB1.cell 28).trans kf.wl
  have k31 := (hB1.cell 31).trans kf.lim
  have k32 := (hB1.cell 32).trans kf.s
  have f25 := hB1.froz 25
  have f32 := hB1.froz 32
  have f27 := hB1.froz 27
  have f28 := hB1.froz 28
  have f31 := hB1.froz 31
  have kl := hB1.lt
  clear kf
  have z0 := (HS.out.blk 0 rfl).cell 0
  have z1 := (HS.out.blk 0 rfl).cell 1
  have zl := (HS.out.blk 0 rfl).lt
  simp only [List.getElem?_cons_zero, List.getElem?_cons_succ] at z0 z1
  generalize hlc : limit c = lk at *
  generalize hmn : min x lk = mn at *
  have hmb : 0 ≤ mn ∧ mn ≤ lk := by omega
  have hif : (if lk < x then lk else x) = mn := by rw [← hmn]; split <;> omega
  have hwb : IntKind.u64.wrap lk = lk := by rw [IntKind.wrap_u64]; omega
  have hwm : IntKind.i64.wrap mn = mn := wrap_i64_id _ (by omega) (by omega)
  clear hmn
  have d3 : (pn == c.t) = false := by simp; omega
  have d4 : (pn == c.t + 1) = true := by simp; omega
  have d14 : decide (c.t < pn) = true := by simp; omega
  rw [HLN.out] at h3
  have d15 : ((ln : Int) == mn) = true := by simpa using h3
  clear h1 h3
  -- region 12: what is told, at most what HLI.out _ is: laid at $3
  go_wp2_with fail
  have hmd := hB1.drew
  unfold P.poolL at hmd
  refine wp_region_fr [(1, [0, 1, 2, 3, 4, 5, 6]), (2, [7]), (0, [8, 9, 10, 11, 12, 13]), (3, [14])] [] (by kernel_rfl) (by kernel_rfl) ?_
  simp only [theOps, nthOp, List.map_cons, List.map_nil, Array.getD_eq_getD_getElem?, List.getElem?_toArray, List.getElem?_cons_succ, List.getElem?_cons_zero, Option.getD_some]
  refine wpSegs_soft ?_
  iterate 6 (first | go_big_quiet_step (fail) | quiet_step (fail))
  refine wpQuiet_load_mid 31 _ b 0 cs _ rfl rfl rfl (rangeAt_pre hmd (by simp)) Try.underlying31 rfl (by rw [hsz]; kernel_rfl) ?_
  simp only [Act.put, List.setIfInBounds_toArray, List.set_cons_zero, List.set_cons_succ]
  repeat (first | go_big_quiet_step (fail) | quiet_step (fail))
  refine wpQuiet_nil ?_
  refine wpSegs_keep ?_
  go_wp2_with fail
  refine (HLI.out _).mono ?_
  rintro e w4 ⟨rfl, hf⟩
  have HF := Lib.hid hf
  have HS := Lib.hid (HS.out.drew.fr0 hf); clear hf
  go_wp2_with fail
  refine ⟨⟨⟨_, (by exact HF.out)⟩, rfl⟩, ?_⟩
  repeat ((first | refine wpSegs_soft ?_ | refine wpSegs_pure ?_ | refine wpSegs_here ?_); (repeat (first | go_big_quiet_step (fail) | quiet_step (fail))); refine wpQuiet_nil ?_)
  clear hB1 k24 k25 k26 k27 k28 k31 k32 f25 f32 f27 f28 f31 kl z0 z1 zl
  have hB1 := HS.out.blk 2 rfl
  have kf := P.pf hsz seq (.map (some mb)) (.slice la ln lc) ⟨pn, pf, pwt, pwl, nt, nl, lim, 0⟩
  have k24 := (hB1.cell 24).trans kf.seq
  have k25 := (hB1.cell 25).trans kf.next
  have k26 := (hB1.cell 26).trans kf.mp
  have k27 := (hB1.cell 27).trans kf.wt
  have k28 := (hB1.cell 28).trans kf.wl
  have k31 := (hB1.cell 31).trans kf.lim
  have k32 := (hB1.cell 32).trans kf.s
  have f25 := hB1.froz 25
  have f32 := hB1.froz 32
  have f27 := hB1.froz 27
  have f28 := hB1.froz 28
  have f31 := hB1.froz 31
  have kl := hB1.lt
  clear kf
  have z0 := (HS.out.blk 0 rfl).cell 0
  have z1 := (HS.out.blk 0 rfl).cell 1
  have zl := (HS.out.blk 0 rfl).lt
  simp only [List.getElem?_cons_zero, List.getElem?_cons_succ] at z0 z1
  refine wpSegs_hard ?_
  have hS2 := HS.out.set 2 rfl 28 (.int .i64 (mn))
  simp only [List.set_cons_zero, List.set_cons_succ, P.poolL_wl hsz] at hS2
  go_wp2_with fail
  generalize World.setCell _ _ _ = w5 at hS2 ⊢
  refine wpSegs_done ?_
  clear hB1 k24 k25 k26 k27 k28 k31 k32 f25 f32 f27 f28 f31 kl z0 z1 zl
  have HS := Lib.hid hS2; clear hS2
  have hB1 := HS.out.blk 2 rfl
  have kf := P.pf hsz seq (.map (some mb)) (.slice la ln lc) ⟨pn, pf, pwt, mn, nt, nl, lim, 0⟩
  have k24 := (hB1.cell 24).trans kf.seq
  have k25 := (hB1.cell 25).trans kf.next
  have k26 := (hB1.cell 26).trans kf.mp
  have k27 := (hB1.cell 27).trans kf.wt
  have k28 := (hB1.cell 28).trans kf.wl
  have k31 := (hB1.cell 31).trans kf.lim
  have k32 := (hB1.cell 32).trans kf.s
  have f25 := hB1.froz 25
  have f32 := hB1.froz 32
  have f27 := hB1.froz 27
  have f28 := hB1.froz 28
  have f31 := hB1.froz 31
  have kl := hB1.lt
  clear kf
  have z0 := (HS.out.blk 0 rfl).cell 0
  have z1 := (HS.out.blk 0 rfl).cell 1
  have zl := (HS.out.blk 0 rfl).lt
  simp only [List.getElem?_cons_zero, List.getElem?_cons_succ] at z0 z1
  -- next goes up: state ⟨pn, pf, pwt, mn, nt, nl, lim, 0⟩ (slice la ln lc) becomes ⟨pn + 1, pf, pwt, mn, nt, nl, lim, 0⟩; is all read: not
  have hS2 := HS.out.set 2 rfl 25 (.int .i64 (pn + 1))
  simp only [List.set_cons_zero, List.set_cons_succ, P.poolL_next hsz] at hS2
  go_wp2_with fail
  generalize World.setCell _ _ _ = w5 at hS2 ⊢
  clear hB1 k24 k25 k26 k27 k28 k31 k32 f25 f32 f27 f28 f31 kl z0 z1 zl
  have HS := Lib.hid hS2.drew; clear hS2
  have hB1 := HS.out.blk 2 rfl
  have kf := P.pf hsz seq (.map (some mb)) (.slice la ln lc) ⟨pn + 1, pf, pwt, mn, nt, nl, lim, 0⟩
  have k24 := (hB1.cell 24).trans kf.seq
  have k25 := (hB1.cell 25).trans kf.next
  have k26 := (hB1.cell 26).trans kf.mp
  have k27 := (hB1.cell 27).trans kf.wt
  have k28 := (hB1.cell 28).trans kf.wl
  have k31 := (hB1.cell 31).trans kf.lim
  have k32 := (hB1.cell 32).trans kf.s
  have f25 := hB1.froz 25
  have f32 := hB1.froz 32
  have f27 := hB1.froz 27
  have f28 := hB1.froz 28
  have f31 := hB1.froz 31
  have kl := hB1.lt
  clear kf
  have z0 := (HS.out.blk 0 rfl).cell 0
  have z1 := (HS.out.blk 0 rfl).cell 1
  have zl := (HS.out.blk 0 rfl).lt
  simp only [List.getElem?_cons_zero, List.getElem?_cons_succ] at z0 z1
  refine wp_region_fr [(1, [0, 1, 2, 3, 4, 5, 6, 7, 8, 9, 10, 11, 12, 13, 14, 15, 16, 17, 18, 19])] [] (by kernel_rfl) (by kernel_rfl) ?_
  simp only [theOps, nthOp, List.map_cons, List.map_nil, Array.getD_eq_getD_getElem?, List.getElem?_toArray, List.getElem?_cons_succ, List.getElem?_cons_zero, Option.getD_some]
  repeat ((first | refine wpSegs_soft ?_ | refine wpSegs_pure ?_ | refine wpSegs_here ?_); (repeat (first | go_big_quiet_step (fail) | quiet_step (fail))); refine wpQuiet_nil ?_)
  refine wpSegs_done ?_
  -- all is read: now is what was; s is 1
  have hle := (P.pf hsz seq (.map (some mb)) (.slice la ln lc) ⟨pn + 1, pf, pwt, mn, nt, nl, lim, 0⟩).len
  go_wp2_with (first | (refine wpList_load_any 83 _ rfl rfl _ 27 rfl [.int .i64 pwt, .int .i64 mn] _ (poolL_was hsz hB1) Try.underlying83 rfl (by kernel_rfl) ?_) | (refine wpList_store_part HS.out 2 rfl 29 [.int .i64 pwt, .int .i64 mn] 83 _ _ rfl rfl rfl rfl (by rw [hle]; simp) (by kernel_rfl) (by simp [Value.oneCell']) (fun wA hA _ => ?_); simp only [List.set_cons_zero, List.set_cons_succ, poolL_now hsz] at hA; have b2 := hA.blk 2 rfl; have a32 := (b2.cell 32).trans (P.pf hsz _ _ _ _).s; have g32 := b2.froz 32; have al := b2.lt; have HS2 := Lib.hid hA; clear hA b2))
  have hS2 := HS2.out.set 2 rfl 32 (.int .i64 1)
  simp only [List.set_cons_zero, List.set_cons_succ, P.poolL_s hsz] at hS2
  go_end0
  exact ⟨rfl, HTO.out _ _ _ _ (by omega) HLN.out.symm hS2.tail.tail⟩
set_option maxRecDepth 100000 in
set_option maxHeartbeats 8000000 in
theorem ptell_limboB {w0 w : World} {R : List Thing} (b : Nat) (c : Cfg) (hok : Y.Ok c) (seq x s : Int) (ok : Bool) (hx : 0 ≤ x ∧ x ≤ 18446744073709551615) (pn : Int) (pf : Int → Int) (pwt pwl nt nl : Int) (lim : List Int) (ps : Int) (hp : P.Ok c ⟨pn, pf, pwt, pwl, nt, nl, lim, ps⟩) (h0 : ps = 0) (h1 : c.t + 1 < pn) (h2 : s ≤ seq) (h3 : (lim.length : Int) + 1 ≠ pwl) (h4 : (lim.length : Int) < pwl) (hS : Sep w0 w (poolT c seq b ⟨pn, pf, pwt, pwl, nt, nl, lim, ps⟩ :: R)) :
    Calls Try.prog 30 #[.pointer (some ⟨b, 0, none⟩), .agg #[.int .u64 x, .int .u64 s, .bool ok]] w fun e w' => e = .returned (.tuple #[]) ∧ Sep w0 w' (poolT c seq b ⟨pn + 1, pf, pwt, pwl, nt, nl, lim ++ [x], 0⟩ :: R) := by
  obtain ⟨mb, la, lc, h2⟩ := poolT_of hS
  have HTO := Lib.hid (fun (w' : World) (n k : Nat) (v : Value) hn hk hS => poolT_to (w0 := w0) (w := w') (R := R) (c := c) (seq := seq) (b := b) (mb := mb) (n := n) (k := k) (v := v) (p := ⟨pn + 1, pf, pwt, pwl, nt, nl, lim ++ [x], 0⟩) hn hk hS)
  generalize poolT c seq b ⟨pn + 1, pf, pwt, pwl, nt, nl, lim ++ [x], 0⟩ = TH at *
  have hnb := hp.next
  have hsb := hp.s
  have hfb := hp.f
  have hwt := hp.wt
  have hwl := hp.wl
  have hll := hp.len
  have hlm := limit_pos hok
  have ht8 := hok.t8
  have ht1 := hok.t1
  have hb1 := hok.b1
  have hb64 := hok.b64
  have hsz : (mapCells c).length = 24 := rfl
  have HCF := Lib.hid (fun w => pcfg_any w c)
  have HFD := Lib.hid (fun w => cfgV_field c w)
  have HLI := Lib.hid (fun w => limit_any w c hok)
  unfold mapV at *
  generalize hcf : cfgV c = cf at *
  clear hcf
  generalize mapCells c = cs at *
  dsimp only at h2 hnb hsb hfb hwt hwl hll HTO
  obtain ⟨ln, hln⟩ : ∃ ln : Nat, lim.length = ln := ⟨_, rfl⟩
  rw [hln] at h2 hll
  have HLN := Lib.hid hln
  have HS := Lib.hid (h2.new 55 [.int .u64 x, .int .u64 s, .bool ok])
  clear h2 hS hp hln
  have hq := HS.out.blk 1 rfl
  have o0 := (HS.out.blk 0 rfl).cell 0
  have o1 := (HS.out.blk 0 rfl).cell 1
  have ol := (HS.out.blk 0 rfl).lt
  simp only [List.getElem?_cons_zero, List.getElem?_cons_succ] at o0 o1
  unfold P.poolL at hq
  go_enter Try.func30, Try.ntmps30
  go_wp2_with (refine wpList_load_any 31 _ rfl rfl _ 0 rfl cs _ (Blk.pre hq) Try.underlying31 rfl (by rw [hsz]; kernel_rfl) ?_)
  refine (HCF.out _).mono ?_
  rintro e w2 ⟨rfl, hf⟩
  have HS1 := Lib.hid (HS.out.fr0 hf); clear hf hq o0 o1 ol
  have o0 := (HS1.out.blk 0 rfl).cell 0
  have o1 := (HS1.out.blk 0 rfl).cell 1
  have ol := (HS1.out.blk 0 rfl).lt
  simp only [List.getElem?_cons_zero, List.getElem?_cons_succ] at o0 o1
  have HS := Lib.hid (HS1.out.new 41 [.int .u64 x, .int .u64 s]); clear HS1
  have hfl := fun w => (HFD.out w).1
  have hB1 := HS.out.blk 2 rfl
  have kf := P.pf hsz seq (.map (some mb)) (.slice la ln lc) ⟨pn, pf, pwt, pwl, nt, nl, lim, ps⟩
  have k24 := (hB1.cell 24).trans kf.seq
  have k25 := (hB1.cell 25).trans kf.next
  have k26 := (hB1.cell 26).trans kf.mp
  have k27 := (hB1.cell 27).trans kf.wt
  have k28 := (hB1.cell 28).trans kf.wl
  have k31 := (hB1.cell 31).trans kf.lim
  have k32 := (hB1.cell 32).trans kf.s
  have f25 := hB1.froz 25
  have f32 := hB1.froz 32
  have f27 := hB1.froz 27
  have f28 := hB1.froz 28
  have f31 := hB1.froz 31
  have kl := hB1.lt
  clear kf
  have z0 := (HS.out.blk 0 rfl).cell 0
  have z1 := (HS.out.blk 0 rfl).cell 1
  have zl := (HS.out.blk 0 rfl).lt
  simp only [List.getElem?_cons_zero, List.getElem?_cons_succ] at z0 z1
  rw [HLN.out] at h3 h4
  have d15 : ((ln : Int) + 1 == pwl) = false := by simpa using h3
  clear h3
  subst h0
  have d1 : decide (pn < c.t) = false := by simp; omega
  have d2 : decide (s > seq) = false := by simp; omega
  go_wp2_with fail
  refine wp_region_fr [(1, [0, 1, 2, 3, 4, 5, 6, 7])] [] (by kernel_rfl) (by kernel_rfl) ?_
  simp only [theOps, nthOp, List.map_cons, List.map_nil, Array.getD_eq_getD_getElem?, List.getElem?_toArray, List.getElem?_cons_succ, List.getElem?_cons_zero, Option.getD_some]
  repeat ((first | refine wpSegs_soft ?_ | refine wpSegs_pure ?_ | refine wpSegs_here ?_); (repeat (first | go_big_quiet_step (fail) | quiet_step (fail))); refine wpQuiet_nil ?_)
  refine wpSegs_done ?_
  have HS := Lib.hid HS.out.drew
  clear hB1 k24 k25 k26 k27 k28 k31 k32 f25 f32 f27 f28 f31 kl z0 z1 zl
  have hB1 := HS.out.blk 2 rfl
  have kf := P.pf hsz seq (.map (some mb)) (.slice la ln lc) ⟨pn, pf, pwt, pwl, nt, nl, lim, 0⟩
  have k24 := (hB1.cell 24).trans kf.seq
  have k25 := (hB1.cell 25).trans kf.next
  have k26 := (hB1.cell 26).trans kf.mp
  have k27 := (hB1.cell 27).trans kf.wt
  have k28 := (hB1.cell 28).trans kf.wl
  have k31 := (hB1.cell 31).trans kf.lim
  have k32 := (hB1.cell 32).trans kf.s
  have f25 := hB1.froz 25
  have f32 := hB1.froz 32
  have f27 := hB1.froz 27
  have f28 := hB1.froz 28
  have f31 := hB1.froz 31
  have kl := hB1.lt
  clear kf
  have z0 := (HS.out.blk 0 rfl).cell 0
  have z1 := (HS.out.blk 0 rfl).cell 1
  have zl := (HS.out.blk 0 rfl).lt
  simp only [List.getElem?_cons_zero, List.getElem?_cons_succ] at z0 z1
  have d3 : (pn == c.t) = false := by simp; omega
  have d4 : (pn == c.t + 1) = false := by simp; omega
  have d14 : decide (c.t < pn) = true := by simp; omega
  obtain ⟨i0, hi0, hz0, hz1, hz2⟩ := info_parts P_infoU
  clear hB1 k24 k25 k26 k27 k28 k31 k32 f25 f32 f27 f28 f31 kl z0 z1 zl
  generalize World.drew _ = wL at HS ⊢
  have hB1 := HS.out.blk 2 rfl
  have kf := P.pf hsz seq (.map (some mb)) (.slice la ln lc) ⟨pn, pf, pwt, pwl, nt, nl, lim, 0⟩
  have k24 := (hB1.cell 24).trans kf.seq
  have k25 := (hB1.cell 25).trans kf.next
  have k26 := (hB1.cell 26).trans kf.mp
  have k27 := (hB1.cell 27).trans kf.wt
  have k28 := (hB1.cell 28).trans kf.wl
  have k31 := (hB1.cell 31).trans kf.lim
  have k32 := (hB1.cell 32).trans kf.s
  have f25 := hB1.froz 25
  have f32 := hB1.froz 32
  have f27 := hB1.froz 27
  have f28 := hB1.froz 28
  have f31 := hB1.froz 31
  have kl := hB1.lt
  clear kf
  have z0 := (HS.out.blk 0 rfl).cell 0
  have z1 := (HS.out.blk 0 rfl).cell 1
  have zl := (HS.out.blk 0 rfl).lt
  simp only [List.getElem?_cons_zero, List.getElem?_cons_succ] at z0 z1
  go_wp2_with fail
  refine wp_region_fr [(1, [1, 2, 3, 4, 5, 6]), (0, [0]), (2, [7]), (3, [8]), (0, [9, 10]), (3, [11])] [] (by kernel_rfl) (by kernel_rfl) ?_
  simp only [theOps, nthOp, List.map_cons, List.map_nil, Array.getD_eq_getD_getElem?, List.getElem?_toArray, List.getElem?_cons_succ, List.getElem?_cons_zero, Option.getD_some]
  repeat ((first | refine wpSegs_soft ?_ | refine wpSegs_pure ?_ | refine wpSegs_here ?_); (repeat (first | go_big_quiet_step (fail) | quiet_step (fail))); refine wpQuiet_nil ?_)
  refine wpSegs_keep ?_
  go_wp2_with fail
  refine ⟨⟨⟨_, (by exact Fr.from_drew ((Fr.refl _ _).alloc _).drew)⟩, rfl⟩, ?_⟩
  have h2 := (HS.out.new 22 [.int .u64 x]).drew
  have HSN := Lib.hid h2; clear h2
  refine wpSegs_hard ?_
  refine wpList_push_blk _ rfl _ _ 63 rfl 0 22 i0 _ 1 8 Try.underlying63 hi0 hz0 hz1 hz2 rfl (by decide) (.slice la ln lc) ln (lim.map (Value.int .u64)) rfl (HSN.out.row 5 rfl) [.int .u64 x] _ _ rfl (HSN.out.blk 0 rfl) rfl (by simp [Value.oneCell']) (by unfold maxLen; omega) (by omega) (Nat.zero_le _) ?_
  intro g6 c6 w6 hown6 hg6 hgg6 hc1 hc2
  simp only [Act.put, List.setIfInBounds_toArray, List.set_cons_zero, List.set_cons_succ]
  have h3 := (HSN.out.grown 5 rfl hown6 hg6 (fun q e => by
    rcases hgg6 with h1 | h1
    · exact .inl (h1.trans e)
    · right; simp only [Value.ownBlock, Option.some.injEq] at e; rw [← e, h1]; exact Nat.le_refl _)).tail
  have hml : (lim ++ [x]).map (Value.int .u64) = lim.map (Value.int .u64) ++ [.int .u64 x] := by simp
  simp only [List.set_cons_zero, List.set_cons_succ] at h3
  rw [← hml] at h3
  clear hB1 k24 k25 k26 k27 k28 k31 k32 f25 f32 f27 f28 f31 kl z0 z1 zl
  have HS := Lib.hid h3
  clear h3 hown6 hg6 hgg6 HSN hml
  have hB1 := HS.out.blk 2 rfl
  have kf := P.pf hsz seq (.map (some mb)) (.slice la ln lc) ⟨pn, pf, pwt, pwl, nt, nl, lim, 0⟩
  have k24 := (hB1.cell 24).trans kf.seq
  have k25 := (hB1.cell 25).trans kf.next
  have k26 := (hB1.cell 26).trans kf.mp
  have k27 := (hB1.cell 27).trans kf.wt
  have k28 := (hB1.cell 28).trans kf.wl
  have k31 := (hB1.cell 31).trans kf.lim
  have k32 := (hB1.cell 32).trans kf.s
  have f25 := hB1.froz 25
  have f32 := hB1.froz 32
  have f27 := hB1.froz 27
  have f28 := hB1.froz 28
  have f31 := hB1.froz 31
  have kl := hB1.lt
  clear kf
  have z0 := (HS.out.blk 0 rfl).cell 0
  have z1 := (HS.out.blk 0 rfl).cell 1
  have zl := (HS.out.blk 0 rfl).lt
  simp only [List.getElem?_cons_zero, List.getElem?_cons_succ] at z0 z1
  repeat ((first | refine wpSegs_soft ?_ | refine wpSegs_pure ?_ | refine wpSegs_here ?_); (repeat (first | go_big_quiet_step (fail) | quiet_step (fail))); refine wpQuiet_nil ?_)
  refine wpSegs_hard ?_
  have hS2 := HS.out.set 2 rfl 31 (.slice (some ⟨g6, 0, none⟩) (ln + 1) c6)
  simp only [List.set_cons_zero, List.set_cons_succ, P.poolL_lim hsz] at hS2
  go_wp2_with fail
  generalize World.setCell _ _ _ = w4 at hS2 ⊢
  refine wpSegs_done ?_
  clear hB1 k24 k25 k26 k27 k28 k31 k32 f25 f32 f27 f28 f31 kl z0 z1 zl
  have HS := Lib.hid hS2; clear hS2
  have hB1 := HS.out.blk 2 rfl
  have kf := P.pf hsz seq (.map (some mb)) (.slice (some ⟨g6, 0, none⟩) (ln + 1) c6) ⟨pn, pf, pwt, pwl, nt, nl, lim, 0⟩
  have k24 := (hB1.cell 24).trans kf.seq
  have k25 := (hB1.cell 25).trans kf.next
  have k26 := (hB1.cell 26).trans kf.mp
  have k27 := (hB1.cell 27).trans kf.wt
  have k28 := (hB1.cell 28).trans kf.wl
  have k31 := (hB1.cell 31).trans kf.lim
  have k32 := (hB1.cell 32).trans kf.s
  have f25 := hB1.froz 25
  have f32 := hB1.froz 32
  have f27 := hB1.froz 27
  have f28 := hB1.froz 28
  have f31 := hB1.froz 31
  have kl := hB1.lt
  clear kf
  have z0 := (HS.out.blk 0 rfl).cell 0
  have z1 := (HS.out.blk 0 rfl).cell 1
  have zl := (HS.out.blk 0 rfl).lt
  simp only [List.getElem?_cons_zero, List.getElem?_cons_succ] at z0 z1
  -- next goes up: state ⟨pn, pf, pwt, pwl, nt, nl, lim, 0⟩ (slice (some ⟨g6, 0, none⟩) (ln + 1) c6) becomes ⟨pn + 1, pf, pwt, pwl, nt, nl, lim, 0⟩; is all read: not
  have hS2 := HS.out.set 2 rfl 25 (.int .i64 (pn + 1))
  simp only [List.set_cons_zero, List.set_cons_succ, P.poolL_next hsz] at hS2
  go_wp2_with fail
  generalize World.setCell _ _ _ = w5 at hS2 ⊢
  clear hB1 k24 k25 k26 k27 k28 k31 k32 f25 f32 f27 f28 f31 kl z0 z1 zl
  have HS := Lib.hid hS2.drew; clear hS2
  have hB1 := HS.out.blk 2 rfl
  have kf := P.pf hsz seq (.map (some mb)) (.slice (some ⟨g6, 0, none⟩) (ln + 1) c6) ⟨pn + 1, pf, pwt, pwl, nt, nl, lim, 0⟩
  have k24 := (hB1.cell 24).trans kf.seq
  have k25 := (hB1.cell 25).trans kf.next
  have k26 := (hB1.cell 26).trans kf.mp
  have k27 := (hB1.cell 27).trans kf.wt
  have k28 := (hB1.cell 28).trans kf.wl
  have k31 := (hB1.cell 31).trans kf.lim
  have k32 := (hB1.cell 32).trans kf.s
  have f25 := hB1.froz 25
  have f32 := hB1.froz 32
  have f27 := hB1.froz 27
  have f28 := hB1.froz 28
  have f31 := hB1.froz 31
  have kl := hB1.lt
  clear kf
  have z0 := (HS.out.blk 0 rfl).cell 0
  have z1 := (HS.out.blk 0 rfl).cell 1
  have zl := (HS.out.blk 0 rfl).lt
  simp only [List.getElem?_cons_zero, List.getElem?_cons_succ] at z0 z1
  refine wp_region_fr [(1, [0, 1, 2, 3, 4, 5, 6, 7, 8, 9, 10, 11, 12, 13, 14, 15, 16, 17, 18, 19])] [] (by kernel_rfl) (by kernel_rfl) ?_
  simp only [theOps, nthOp, List.map_cons, List.map_nil, Array.getD_eq_getD_getElem?, List.getElem?_toArray, List.getElem?_cons_succ, List.getElem?_cons_zero, Option.getD_some]
  repeat ((first | refine wpSegs_soft ?_ | refine wpSegs_pure ?_ | refine wpSegs_here ?_); (repeat (first | go_big_quiet_step (fail) | quiet_step (fail))); refine wpQuiet_nil ?_)
  refine wpSegs_done ?_
  go_wp2_with fail
  go_end0
  exact ⟨rfl, HTO.out _ _ _ _ (by omega) (by rw [List.length_append, HLN.out]; rfl) HS.out.tail.tail⟩
set_option maxRecDepth 100000 in
set_option maxHeartbeats 8000000 in
theorem ptell_limboA {w0 w : World} {R : List Thing} (b : Nat) (c : Cfg) (hok : Y.Ok c) (seq x s : Int) (ok : Bool) (hx : 0 ≤ x ∧ x ≤ 18446744073709551615) (pn : Int) (pf : Int → Int) (pwt pwl nt nl : Int) (lim : List Int) (ps : Int) (hp : P.Ok c ⟨pn, pf, pwt, pwl, nt, nl, lim, ps⟩) (h0 : ps = 0) (h1 : c.t + 1 < pn) (h2 : s ≤ seq) (h3 : (lim.length : Int) + 1 = pwl) (h4 : (lim.length : Int) < pwl) (hS : Sep w0 w (poolT c seq b ⟨pn, pf, pwt, pwl, nt, nl, lim, ps⟩ :: R)) :
    Calls Try.prog 30 #[.pointer (some ⟨b, 0, none⟩), .agg #[.int .u64 x, .int .u64 s, .bool ok]] w fun e w' => e = .returned (.tuple #[]) ∧ Sep w0 w' (poolT c seq b ⟨pn + 1, pf, pwt, pwl, pwt, pwl, lim ++ [x], 1⟩ :: R) := by
  obtain ⟨mb, la, lc, h2⟩ := poolT_of hS
  have HTO := Lib.hid (fun (w' : World) (n k : Nat) (v : Value) hn hk hS => poolT_to (w0 := w0) (w := w') (R := R) (c := c) (seq := seq) (b := b) (mb := mb) (n := n) (k := k) (v := v) (p := ⟨pn + 1, pf, pwt, pwl, pwt, pwl, lim ++ [x], 1⟩) hn hk hS)
  generalize poolT c seq b ⟨pn + 1, pf, pwt, pwl, pwt, pwl, lim ++ [x], 1⟩ = TH at *
  have hnb := hp.next
  have hsb := hp.s
  have hfb := hp.f
  have hwt := hp.wt
  have hwl := hp.wl
  have hll := hp.len
  have hlm := limit_pos hok
  have ht8 := hok.t8
  have ht1 := hok.t1
  have hb1 := hok.b1
  have hb64 := hok.b64
  have hsz : (mapCells c).length = 24 := rfl
  have HCF := Lib.hid (fun w => pcfg_any w c)
  have HFD := Lib.hid (fun w => cfgV_field c w)
  have HLI := Lib.hid (fun w => limit_any w c hok)
  unfold mapV at *
  generalize hcf : cfgV c = cf at *
  clear hcf
  generalize mapCells c = cs at *
  dsimp only at h2 hnb hsb hfb hwt hwl hll HTO
  obtain ⟨ln, hln⟩ : ∃ ln : Nat, lim.length = ln := ⟨_, rfl⟩
  rw [hln] at h2 hll
  have HLN := Lib.hid hln
  have HS := Lib.hid (h2.new 55 [.int .u64 x, .int .u64 s, .bool ok])
  clear h2 hS hp hln
  have hq := HS.out.blk 1 rfl
  have o0 := (HS.out.blk 0 rfl).cell 0
  have o1 := (HS.out.blk 0 rfl).cell 1
  have ol := (HS.out.blk 0 rfl).lt
  simp only [List.getElem?_cons_zero, List.getElem?_cons_succ] at o0 o1
  unfold P.poolL at hq
  go_enter Try.func30, Try.ntmps30
  go_wp2_with (refine wpList_load_any 31 _ rfl rfl _ 0 rfl cs _ (Blk.pre hq) Try.underlying31 rfl (by rw [hsz]; kernel_rfl) ?_)
  refine (HCF.out _).mono ?_
  rintro e w2 ⟨rfl, hf⟩
  have HS1 := Lib.hid (HS.out.fr0 hf); clear hf hq o0 o1 ol
  have o0 := (HS1.out.blk 0 rfl).cell 0
  have o1 := (HS1.out.blk 0 rfl).cell 1
  have ol := (HS1.out.blk 0 rfl).lt
  simp only [List.getElem?_cons_zero, List.getElem?_cons_succ] at o0 o1
  have HS := Lib.hid (HS1.out.new 41 [.int .u64 x, .int .u64 s]); clear HS1
  have hfl := fun w => (HFD.out w).1
  have hB1 := HS.out.blk 2 rfl
  have kf := P.pf hsz seq (.map (some mb)) (.slice la ln lc) ⟨pn, pf, pwt, pwl, nt, nl, lim, ps⟩
  have k24 := (hB1.cell 24).trans kf.seq
  have k25 := (hB1.cell 25).trans kf.next
  have k26 := (hB1.cell 26).trans kf.mp
  have k27 := (hB1.cell 27).trans kf.wt
  have k28 := (hB1.cell 28).trans kf.wl
  have k31 := (hB1.cell 31).trans kf.lim
  have k32 := (hB1.cell 32).trans kf.s
  have f25 := hB1.froz 25
  have f32 := hB1.froz 32
  have f27 := hB1.froz 27
  have f28 := hB1.froz 28
  have f31 := hB1.froz 31
  have kl := hB1.lt
  clear kf
  have z0 := (HS.out.blk 0 rfl).cell 0
  have z1 := (HS.out.blk 0 rfl).cell 1
  have zl := (HS.out.blk 0 rfl).lt
  simp only [List.getElem?_cons_zero, List.getElem?_cons_succ] at z0 z1
  rw [HLN.out] at h3 h4
  have d15 : ((ln : Int) + 1 == pwl) = true := by simpa using h3
  clear h3
  subst h0
  have d1 : decide (pn < c.t) = false := by simp; omega
  have d2 : decide (s > seq) = false := by simp; omega
  go_wp2_with fail
  refine wp_region_fr [(1, [0, 1, 2, 3, 4, 5, 6, 7])] [] (by kernel_rfl) (by kernel_rfl) ?_
  simp only [theOps, nthOp, List.map_cons, List.map_nil, Array.getD_eq_getD_getElem?, List.getElem?_toArray, List.getElem?_cons_succ, List.getElem?_cons_zero, Option.getD_some]
  repeat ((first | refine wpSegs_soft ?_ | refine wpSegs_pure ?_ | refine wpSegs_here ?_); (repeat (first | go_big_quiet_step (fail) | quiet_step (fail))); refine wpQuiet_nil ?_)
  refine wpSegs_done ?_
  have HS := Lib.hid HS.out.drew
  clear hB1 k24 k25 k26 k27 k28 k31 k32 f25 f32 f27 f28 f31 kl z0 z1 zl
  have hB1 := HS.out.blk 2 rfl
  have kf := P.pf hsz seq (.map (some mb)) (.slice la ln lc) ⟨pn, pf, pwt, pwl, nt, nl, lim, 0⟩
  have k24 := (hB1.cell 24).trans kf.seq
  have k25 := (hB1.cell 25).trans kf.next
  have k26 := (hB1.cell 26).trans kf.mp
  have k27 := (hB1.cell 27).trans kf.wt
  have k28 := (hB1.cell 28).trans kf.wl
  have k31 := (hB1.cell 31).trans kf.lim
  have k32 := (hB1.cell 32).trans kf.s
  have f25 := hB1.froz 25
  have f32 := hB1.froz 32
  have f27 := hB1.froz 27
  have f28 := hB1.froz 28
  have f31 := hB1.froz 31
  have kl := hB1.lt
  clear kf
  have z0 := (HS.out.blk 0 rfl).cell 0
  have z1 := (HS.out.blk 0 rfl).cell 1
  have zl := (HS.out.blk 0 rfl).lt
  simp only [List.getElem?_cons_zero, List.getElem?_cons_succ] at z0 z1
  have d3 : (pn == c.t) = false := by simp; omega
  have d4 : (pn == c.t + 1) = false := by simp; omega
  have d14 : decide (c.t < pn) = true := by simp; omega
  obtain ⟨i0, hi0, hz0, hz1, hz2⟩ := info_parts P_infoU
  clear hB1 k24 k25 k26 k27 k28 k31 k32 f25 f32 f27 f28 f31 kl z0 z1 zl
  generalize World.drew _ = wL at HS ⊢
  have hB1 := HS.out.blk 2 rfl
  have kf := P.pf hsz seq (.map (some mb)) (.slice la ln lc) ⟨pn, pf, pwt, pwl, nt, nl, lim, 0⟩
  have k24 := (hB1.cell 24).trans kf.seq
  have k25 := (hB1.cell 25).trans kf.next
  have k26 := (hB1.cell 26).trans kf.mp
  have k27 := (hB1.cell 27).trans kf.wt
  have k28 := (hB1.cell 28).trans kf.wl
  have k31 := (hB1.cell 31).trans kf.lim
  have k32 := (hB1.cell 32).trans kf.s
  have f25 := hB1.froz 25
  have f32 := hB1.froz 32
  have f27 := hB1.froz 27
  have f28 := hB1.froz 28
  have f31 := hB1.froz 31
  have kl := hB1.lt
  clear kf
  have z0 := (HS.out.blk 0 rfl).cell 0
  have z1 := (HS.out.blk 0 rfl).cell 1
  have zl := (HS.out.blk 0 rfl).lt
  simp only [List.getElem?_cons_zero, List.getElem?_cons_succ] at z0 z1
  go_wp2_with fail
  refine wp_region_fr [(1, [1, 2, 3, 4, 5, 6]), (0, [0]), (2, [7]), (3, [8]), (0, [9, 10]), (3, [11])] [] (by kernel_rfl) (by kernel_rfl) ?_
  simp only [theOps, nthOp, List.map_cons, List.map_nil, Array.getD_eq_getD_getElem?, List.getElem?_toArray, List.getElem?_cons_succ, List.getElem?_cons_zero, Option.getD_some]
  repeat ((first | refine wpSegs_soft ?_ | refine wpSegs_pure ?_ | refine wpSegs_here ?_); (repeat (first | go_big_quiet_step (fail) | quiet_step (fail))); refine wpQuiet_nil ?_)
  refine wpSegs_keep ?_
  go_wp2_with fail
  refine ⟨⟨⟨_, (by exact Fr.from_drew ((Fr.refl _ _).alloc _).drew)⟩, rfl⟩, ?_⟩
  have h2 := (HS.out.new 22 [.int .u64 x]).drew
  have HSN := Lib.hid h2; clear h2
  refine wpSegs_hard ?_
  refine wpList_push_blk _ rfl _ _ 63 rfl 0 22 i0 _ 1 8 Try.underlying63 hi0 hz0 hz1 hz2 rfl (by decide) (.slice la ln lc) ln (lim.map (Value.int .u64)) rfl (HSN.out.row 5 rfl) [.int .u64 x] _ _ rfl (HSN.out.blk 0 rfl) rfl (by simp [Value.oneCell']) (by unfold maxLen; omega) (by omega) (Nat.zero_le _) ?_
  intro g6 c6 w6 hown6 hg6 hgg6 hc1 hc2
  simp only [Act.put, List.setIfInBounds_toArray, List.set_cons_zero, List.set_cons_succ]
  have h3 := (HSN.out.grown 5 rfl hown6 hg6 (fun q e => by
    rcases hgg6 with h1 | h1
    · exact .inl (h1.trans e)
    · right; simp only [Value.ownBlock, Option.some.injEq] at e; rw [← e, h1]; exact Nat.le_refl _)).tail
  have hml : (lim ++ [x]).map (Value.int .u64) = lim.map (Value.int .u64) ++ [.int .u64 x] := by simp
  simp only [List.set_cons_zero, List.set_cons_succ] at h3
  rw [← hml] at h3
  clear hB1 k24 k25 k26 k27 k28 k31 k32 f25 f32 f27 f28 f31 kl z0 z1 zl
  have HS := Lib.hid h3
  clear h3 hown6 hg6 hgg6 HSN hml
  have hB1 := HS.out.blk 2 rfl
  have kf := P.pf hsz seq (.map (some mb)) (.slice la ln lc) ⟨pn, pf, pwt, pwl, nt, nl, lim, 0⟩
  have k24 := (hB1.cell 24).trans kf.seq
  have k25 := (hB1.cell 25).trans kf.next
  have k26 := (hB1.cell 26).trans kf.mp
  have k27 := (hB1.cell 27).trans kf.wt
  have k28 := (hB1.cell 28).trans kf.wl
  have k31 := (hB1.cell 31).trans kf.lim
  have k32 := (hB1.cell 32).trans kf.s
  have f25 := hB1.froz 25
  have f32 := hB1.froz 32
  have f27 := hB1.froz 27
  have f28 := hB1.froz 28
  have f31 := hB1.froz 31
  have kl := hB1.lt
  clear kf
  have z0 := (HS.out.blk 0 rfl).cell 0
  have z1 := (HS.out.blk 0 rfl).cell 1
  have zl := (HS.out.blk 0 rfl).lt
  simp only [List.getElem?_cons_zero, List.getElem?_cons_succ] at z0 z1
  repeat ((first | refine wpSegs_soft ?_ | refine wpSegs_pure ?_ | refine wpSegs_here ?_); (repeat (first | go_big_quiet_step (fail) | quiet_step (fail))); refine wpQuiet_nil ?_)
  refine wpSegs_hard ?_
  have hS2 := HS.out.set 2 rfl 31 (.slice (some ⟨g6, 0, none⟩) (ln + 1) c6)
  simp only [List.set_cons_zero, List.set_cons_succ, P.poolL_lim hsz] at hS2
  go_wp2_with fail
  generalize World.setCell _ _ _ = w4 at hS2 ⊢
  refine wpSegs_done ?_
  clear hB1 k24 k25 k26 k27 k28 k31 k32 f25 f32 f27 f28 f31 kl z0 z1 zl
  have HS := Lib.hid hS2; clear hS2
  have hB1 := HS.out.blk 2 rfl
  have kf := P.pf hsz seq (.map (some mb)) (.slice (some ⟨g6, 0, none⟩) (ln + 1) c6) ⟨pn, pf, pwt, pwl, nt, nl, lim, 0⟩
  have k24 := (hB1.cell 24).trans kf.seq
  have k25 := (hB1.cell 25).trans kf.next
  have k26 := (hB1.cell 26).trans kf.mp
  have k27 := (hB1.cell 27).trans kf.wt
  have k28 := (hB1.cell 28).trans kf.wl
  have k31 := (hB1.cell 31).trans kf.lim
  have k32 := (hB1.cell 32).trans kf.s
  have f25 := hB1.froz 25
  have f32 := hB1.froz 32
  have f27 := hB1.froz 27
  have f28 := hB1.froz 28
  have f31 := hB1.froz 31
  have kl := hB1.lt
  clear kf
  have z0 := (HS.out.blk 0 rfl).cell 0
  have z1 := (HS.out.blk 0 rfl).cell 1
  have zl := (HS.out.blk 0 rfl).lt
  simp only [List.getElem?_cons_zero, List.getElem?_cons_succ] at z0 z1
  -- next goes up: state ⟨pn, pf, pwt, pwl, nt, nl, lim, 0⟩ (slice (some ⟨g6, 0, none⟩) (ln + 1) c6) becomes ⟨pn + 1, pf, pwt, pwl, nt, nl, lim, 0⟩; is all read: not
  have hS2 := HS.out.set 2 rfl 25 (.int .i64 (pn + 1))
  simp only [List.set_cons_zero, List.set_cons_succ, P.poolL_next hsz] at hS2
  go_wp2_with fail
  generalize World.setCell _ _ _ = w5 at hS2 ⊢
  clear hB1 k24 k25 k26 k27 k28 k31 k32 f25 f32 f27 f28 f31 kl z0 z1 zl
  have HS := Lib.hid hS2.drew; clear hS2
  have hB1 := HS.out.blk 2 rfl
  have kf := P.pf hsz seq (.map (some mb)) (.slice (some ⟨g6, 0, none⟩) (ln + 1) c6) ⟨pn + 1, pf, pwt, pwl, nt, nl, lim, 0⟩
  have k24 := (hB1.cell 24).trans kf.seq
  have k25 := (hB1.cell 25).trans kf.next
  have k26 := (hB1.cell 26).trans kf.mp
  have k27 := (hB1.cell 27).trans kf.wt
  have k28 := (hB1.cell 28).trans kf.wl
  have k31 := (hB1.cell 31).trans kf.lim
  have k32 := (hB1.cell 32).trans kf.s
  have f25 := hB1.froz 25
  have f32 := hB1.froz 32
  have f27 := hB1.froz 27
  have f28 := hB1.froz 28
  have f31 := hB1.froz 31
  have kl := hB1.lt
  clear kf
  have z0 := (HS.out.blk 0 rfl).cell 0
  have z1 := (HS.out.blk 0 rfl).cell 1
  have zl := (HS.out.blk 0 rfl).lt
  simp only [List.getElem?_cons_zero, List.getElem?_cons_succ] at z0 z1
  refine wp_region_fr [(1, [0, 1, 2, 3, 4, 5, 6, 7, 8, 9, 10, 11, 12, 13, 14, 15, 16, 17, 18, 19])] [] (by kernel_rfl) (by kernel_rfl) ?_
  simp only [theOps, nthOp, List.map_cons, List.map_nil, Array.getD_eq_getD_getElem?, List.getElem?_toArray, List.getElem?_cons_succ, List.getElem?_cons_zero, Option.getD_some]
  repeat ((first | refine wpSegs_soft ?_ | refine wpSegs_pure ?_ | refine wpSegs_here ?_); (repeat (first | go_big_quiet_step (fail) | quiet_step (fail))); refine wpQuiet_nil ?_)
  refine wpSegs_done ?_
  -- all is read: now is what was; s is 1
  have hle := (P.pf hsz seq (.map (some mb)) (.slice (some ⟨g6, 0, none⟩) (ln + 1) c6) ⟨pn + 1, pf, pwt, pwl, nt, nl, lim, 0⟩).len
  go_wp2_with (first | (refine wpList_load_any 83 _ rfl rfl _ 27 rfl [.int .i64 pwt, .int .i64 pwl] _ (poolL_was hsz hB1) Try.underlying83 rfl (by kernel_rfl) ?_) | (refine wpList_store_part HS.out 2 rfl 29 [.int .i64 pwt, .int .i64 pwl] 83 _ _ rfl rfl rfl rfl (by rw [hle]; simp) (by kernel_rfl) (by simp [Value.oneCell']) (fun wA hA _ => ?_); simp only [List.set_cons_zero, List.set_cons_succ, poolL_now hsz] at hA; have b2 := hA.blk 2 rfl; have a32 := (b2.cell 32).trans (P.pf hsz _ _ _ _).s; have g32 := b2.froz 32; have al := b2.lt; have HS2 := Lib.hid hA; clear hA b2))
  have hS2 := HS2.out.set 2 rfl 32 (.int .i64 1)
  simp only [List.set_cons_zero, List.set_cons_succ, P.poolL_s hsz] at hS2
  go_end0
  exact ⟨rfl, HTO.out _ _ _ _ (by omega) (by rw [List.length_append, HLN.out]; rfl) hS2.tail.tail⟩
theorem ptell_of {w0 w : World} {R : List Thing} (b : Nat) (c : Cfg) (hok : Y.Ok c) (seq x s : Int) (ok : Bool) (hx : 0 ≤ x ∧ x ≤ 18446744073709551615) (p : P.St) (hp : P.Ok c p) (hS : Sep w0 w (poolT c seq b p :: R)) :
    Calls Try.prog 30 #[.pointer (some ⟨b, 0, none⟩), .agg #[.int .u64 x, .int .u64 s, .bool ok]] w fun e w' => e = .returned (.tuple #[]) ∧ Sep w0 w' (poolT c seq b (P.tell c seq x s p) :: R) := by
  obtain ⟨pn, pf, pwt, pwl, nt, nl, lim, ps⟩ := p
  have hcnt := hp.cnt
  dsimp only at hcnt
  unfold P.tell P.fin
  dsimp only
  by_cases h0 : ps = 0
  · rw [if_neg (by simpa using h0)]
    by_cases h1 : pn < c.t
    · rw [if_pos h1, if_neg (by omega)]; subst h0; exact ptell_slot b c hok seq x s ok hx pn pf pwt pwl nt nl lim 0 hp rfl h1 hS
    rw [if_neg h1]
    by_cases h2 : seq < s
    · rw [if_pos h2]; exact ptell_stale b c hok seq x s ok hx pn pf pwt pwl nt nl lim ps hp h0 (by omega) h2 hS
    rw [if_neg h2]
    by_cases h3 : pn = c.t
    · rw [if_pos h3, if_neg (by omega)]; subst h0; exact ptell_top b c hok seq x s ok hx pn pf pwt pwl nt nl lim 0 hp rfl h3 (by omega) hS
    rw [if_neg h3]
    by_cases h4 : pn = c.t + 1
    · rw [if_pos h4]
      by_cases h5 : (lim.length : Int) = min x (limit c)
      · rw [if_pos ⟨by omega, h5⟩]; exact ptell_limA b c hok seq x s ok hx pn pf pwt pwl nt nl lim ps hp h0 h4 (by omega) h5 hS
      · rw [if_neg (fun h => h5 h.2)]; subst h0; exact ptell_limB b c hok seq x s ok hx pn pf pwt pwl nt nl lim 0 hp rfl h4 (by omega) h5 hS
    rw [if_neg h4]
    have h6 : (lim.length : Int) < pwl := by
      rcases hcnt h0 with h | h
      · omega
      · exact h.2.2
    by_cases h5 : (lim.length : Int) + 1 = pwl
    · rw [if_pos ⟨by omega, by simpa using h5⟩]; exact ptell_limboA b c hok seq x s ok hx pn pf pwt pwl nt nl lim ps hp h0 (by omega) (by omega) h5 h6 hS
    · rw [if_neg (fun h => h5 (by simpa using h.2))]; subst h0; exact ptell_limboB b c hok seq x s ok hx pn pf pwt pwl nt nl lim 0 hp rfl (by omega) (by omega) h5 h6 hS
  · rw [if_pos h0]; exact ptell_no b c hok seq x s ok hx pn pf pwt pwl nt nl lim ps hp h0 hS
end Go.Proofs.Ytccioehckfdjdaa
