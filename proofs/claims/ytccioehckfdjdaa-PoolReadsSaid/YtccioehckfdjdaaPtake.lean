/- The walk of pool's Take: over a set, and the state's block. -/
import Derived.Test.YtccioehckfdjdaaPgive
set_option linter.unusedSimpArgs false
set_option linter.unusedVariables false
namespace Go.Proofs.Ytccioehckfdjdaa
open Go.RowKit Go.Tum Go.Tum.Y
theorem wipe_done (c : Cfg) (b : Int) (s : W.S) : ∀ k, (P.wipe c b k s).done.length ≤ s.done.length + k
  | 0 => Nat.le_refl _
  | k + 1 => by
    have h1 := wipe_done c b s k
    have h2 := putS_done (P.wipe c b k s) (at_ c 16 b k) 0
    unfold P.wipe
    omega
set_option maxRecDepth 100000 in
set_option maxHeartbeats 8000000 in
theorem ptake_none {w0 w : World} {R : List Thing} (b k : Nat) (c : Cfg) (hok : Y.Ok c) (seq : Int) (mv v : Value) (p : P.St) (s : W.S) (bb : Int) (hnt : 0 ≤ p.nt ∧ p.nt ≤ c.b) (h0 : p.nt = 0) (hd : s.done.length ≤ 900000) (hS : Sep w0 w (sp c seq b k mv v p s R)) :
    Calls Try.prog 40 #[.pointer (some ⟨b, 0, none⟩), .pointer (some ⟨k, 0, none⟩), .int .i64 bb] w fun e w' => e = .returned (.tuple #[]) ∧ Sep w0 w' (sp c seq b k mv v p s R) := by
  try unfold P.putS
  have hd2 := putS_done s (at_ c 11 bb 0) 1
  have HWI := Lib.hid (wipe_done c bb (W.put s (at_ c 11 bb 0) 1).1)
  unfold P.putS at hd2
  have hsz : (mapCells c).length = 24 := rfl
  have HA := Lib.hid (fun w kind i k => at_any w c hok kind i k)
  have HC := Lib.hid (fun w => pcfg_any w c)
  have HFD := Lib.hid (fun w => cfgV_field2 c w)
  have HP := Lib.hid (fun (w' : World) (s : W.S) (R : List Thing) (hd : s.done.length ≤ 1000000) (hS : Sep w0 w' (setT k s :: R)) a v => put_sep (w0 := w0) (w := w') (R := R) (b := k) (s := s) hS hd a v)
  have ht8 := hok.t8
  have ht1 := hok.t1
  have hb1 := hok.b1
  have hb64 := hok.b64
  unfold sp mapV at *
  generalize hcf : cfgV c = cf at *
  clear hcf
  generalize mapCells c = cs at *
  obtain ⟨pn, pf, pwt, pwl, nt, nl, lim, ps⟩ := p
  dsimp only at *
  have HS := Lib.hid hS; clear hS
  generalize hTL : setT k _ :: _ = TL
  have HTL := Lib.hid hTL; clear hTL
  have hB1 := HS.out.blk 1 rfl
  have kf := P.pf hsz seq mv v ⟨pn, pf, pwt, pwl, nt, nl, lim, ps⟩
  have k27 := (hB1.cell 27).trans kf.wt
  have k28 := (hB1.cell 28).trans kf.wl
  have k29 := (hB1.cell 29).trans kf.nt
  have k30 := (hB1.cell 30).trans kf.nl
  have f29 := hB1.froz 29
  have f30 := hB1.froz 30
  have kl := hB1.lt
  have hmd := hB1.drew
  unfold P.poolL at hmd hB1
  clear kf
  have hd : s.done.length ≤ 1000000 := by omega
  have d1 : (nt == 0) = true := by simpa using h0
  go_enter Try.func40, Try.ntmps40
  clear h0
  go_wp2_with fail
  refine bodyPost_ret (v := .tuple #[]) (by simp [results, Try.results40, go_sem]) rfl ?_
  exact ⟨rfl, HTL.out ▸ HS.out⟩
set_option maxRecDepth 100000 in
set_option maxHeartbeats 8000000 in
theorem ptake_no {w0 w : World} {R : List Thing} (b k : Nat) (c : Cfg) (hok : Y.Ok c) (seq : Int) (mv v : Value) (p : P.St) (s : W.S) (bb : Int) (hnt : 0 ≤ p.nt ∧ p.nt ≤ c.b) (h0 : p.nt ≠ 0) (h1 : at_ c 11 bb 0 = -1) (hd : s.done.length ≤ 900000) (hS : Sep w0 w (sp c seq b k mv v p s R)) :
    Calls Try.prog 40 #[.pointer (some ⟨b, 0, none⟩), .pointer (some ⟨k, 0, none⟩), .int .i64 bb] w fun e w' => e = .returned (.tuple #[]) ∧ Sep w0 w' (sp c seq b k mv v p s R) := by
  try unfold P.putS
  have hd2 := putS_done s (at_ c 11 bb 0) 1
  have HWI := Lib.hid (wipe_done c bb (W.put s (at_ c 11 bb 0) 1).1)
  unfold P.putS at hd2
  have hsz : (mapCells c).length = 24 := rfl
  have HA := Lib.hid (fun w kind i k => at_any w c hok kind i k)
  have HC := Lib.hid (fun w => pcfg_any w c)
  have HFD := Lib.hid (fun w => cfgV_field2 c w)
  have HP := Lib.hid (fun (w' : World) (s : W.S) (R : List Thing) (hd : s.done.length ≤ 1000000) (hS : Sep w0 w' (setT k s :: R)) a v => put_sep (w0 := w0) (w := w') (R := R) (b := k) (s := s) hS hd a v)
  have ht8 := hok.t8
  have ht1 := hok.t1
  have hb1 := hok.b1
  have hb64 := hok.b64
  unfold sp mapV at *
  generalize hcf : cfgV c = cf at *
  clear hcf
  generalize mapCells c = cs at *
  obtain ⟨pn, pf, pwt, pwl, nt, nl, lim, ps⟩ := p
  dsimp only at *
  have HS := Lib.hid hS; clear hS
  generalize hTL : setT k _ :: _ = TL
  have HTL := Lib.hid hTL; clear hTL
  have hB1 := HS.out.blk 1 rfl
  have kf := P.pf hsz seq mv v ⟨pn, pf, pwt, pwl, nt, nl, lim, ps⟩
  have k27 := (hB1.cell 27).trans kf.wt
  have k28 := (hB1.cell 28).trans kf.wl
  have k29 := (hB1.cell 29).trans kf.nt
  have k30 := (hB1.cell 30).trans kf.nl
  have f29 := hB1.froz 29
  have f30 := hB1.froz 30
  have kl := hB1.lt
  have hmd := hB1.drew
  unfold P.poolL at hmd hB1
  clear kf
  have hd : s.done.length ≤ 1000000 := by omega
  have d1 : (nt == 0) = false := by simpa using h0
  go_enter Try.func40, Try.ntmps40
  go_wp2_with (refine wpList_load_any 31 _ rfl rfl _ 0 rfl cs _ (Blk.pre hB1) Try.underlying31 rfl (by rw [hsz]; kernel_rfl) ?_)
  refine (HA.out _ _ _ _).mono ?_
  rintro e w5 ⟨rfl, hf⟩
  clear hB1 k27 k28 k29 k30 f29 f30 kl hmd
  have HS := Lib.hid (HS.out.fr0 hf); clear hf
  have hB1 := HS.out.blk 1 rfl
  have kf := P.pf hsz seq mv v ⟨pn, pf, pwt, pwl, nt, nl, lim, ps⟩
  have k27 := (hB1.cell 27).trans kf.wt
  have k28 := (hB1.cell 28).trans kf.wl
  have k29 := (hB1.cell 29).trans kf.nt
  have k30 := (hB1.cell 30).trans kf.nl
  have f29 := hB1.froz 29
  have f30 := hB1.froz 30
  have kl := hB1.lt
  have hmd := hB1.drew
  unfold P.poolL at hmd hB1
  clear kf
  go_wp2_with fail
  refine bodyPost_ret (v := .tuple #[]) (by simp [results, Try.results40, go_sem]) rfl ?_
  exact ⟨rfl, HTL.out ▸ HS.out⟩
set_option maxRecDepth 100000 in
set_option maxHeartbeats 8000000 in
theorem ptake_yes {w0 w : World} {R : List Thing} (b k : Nat) (c : Cfg) (hok : Y.Ok c) (seq : Int) (mv v : Value) (p : P.St) (s : W.S) (bb : Int) (hnt : 0 ≤ p.nt ∧ p.nt ≤ c.b) (h0 : p.nt ≠ 0) (h1 : at_ c 11 bb 0 ≠ -1) (hd : s.done.length ≤ 900000) (hS : Sep w0 w (sp c seq b k mv v p s R)) :
    Calls Try.prog 40 #[.pointer (some ⟨b, 0, none⟩), .pointer (some ⟨k, 0, none⟩), .int .i64 bb] w fun e w' => e = .returned (.tuple #[]) ∧ Sep w0 w' (sp c seq b k mv v { p with nt := p.nt - 1 } (P.wipe c bb 8 (P.putS s (at_ c 11 bb 0) 1)) R) := by
  try unfold P.putS
  have hd2 := putS_done s (at_ c 11 bb 0) 1
  have HWI := Lib.hid (wipe_done c bb (W.put s (at_ c 11 bb 0) 1).1)
  unfold P.putS at hd2
  have hsz : (mapCells c).length = 24 := rfl
  have HA := Lib.hid (fun w kind i k => at_any w c hok kind i k)
  have HC := Lib.hid (fun w => pcfg_any w c)
  have HFD := Lib.hid (fun w => cfgV_field2 c w)
  have HP := Lib.hid (fun (w' : World) (s : W.S) (R : List Thing) (hd : s.done.length ≤ 1000000) (hS : Sep w0 w' (setT k s :: R)) a v => put_sep (w0 := w0) (w := w') (R := R) (b := k) (s := s) hS hd a v)
  have ht8 := hok.t8
  have ht1 := hok.t1
  have hb1 := hok.b1
  have hb64 := hok.b64
  unfold sp mapV at *
  generalize hcf : cfgV c = cf at *
  clear hcf
  generalize mapCells c = cs at *
  obtain ⟨pn, pf, pwt, pwl, nt, nl, lim, ps⟩ := p
  dsimp only at *
  have HS := Lib.hid hS; clear hS
  generalize hTL : setT k _ :: _ = TL
  have HTL := Lib.hid hTL; clear hTL
  have hB1 := HS.out.blk 1 rfl
  have kf := P.pf hsz seq mv v ⟨pn, pf, pwt, pwl, nt, nl, lim, ps⟩
  have k27 := (hB1.cell 27).trans kf.wt
  have k28 := (hB1.cell 28).trans kf.wl
  have k29 := (hB1.cell 29).trans kf.nt
  have k30 := (hB1.cell 30).trans kf.nl
  have f29 := hB1.froz 29
  have f30 := hB1.froz 30
  have kl := hB1.lt
  have hmd := hB1.drew
  unfold P.poolL at hmd hB1
  clear kf
  have hd : s.done.length ≤ 1000000 := by omega
  have d1 : (nt == 0) = false := by simpa using h0
  go_enter Try.func40, Try.ntmps40
  have d2 : (at_ c 11 bb 0 == -1) = false := by simpa using h1
  have hwn : IntKind.i64.wrap (nt - 1) = nt - 1 := wrap_i64_id _ (by omega) (by omega)
  go_wp2_with (refine wpList_load_any 31 _ rfl rfl _ 0 rfl cs _ (Blk.pre hB1) Try.underlying31 rfl (by rw [hsz]; kernel_rfl) ?_)
  refine (HA.out _ _ _ _).mono ?_
  rintro e w5 ⟨rfl, hf⟩
  clear hB1 k27 k28 k29 k30 f29 f30 kl hmd
  have HS := Lib.hid (HS.out.fr0 hf); clear hf
  have hB1 := HS.out.blk 1 rfl
  have kf := P.pf hsz seq mv v ⟨pn, pf, pwt, pwl, nt, nl, lim, ps⟩
  have k27 := (hB1.cell 27).trans kf.wt
  have k28 := (hB1.cell 28).trans kf.wl
  have k29 := (hB1.cell 29).trans kf.nt
  have k30 := (hB1.cell 30).trans kf.nl
  have f29 := hB1.froz 29
  have f30 := hB1.froz 30
  have kl := hB1.lt
  have hmd := hB1.drew
  unfold P.poolL at hmd hB1
  clear kf
  have hS2 := HS.out.set 1 rfl 29 (.int .i64 (nt - 1))
  simp only [List.set_cons_zero, List.set_cons_succ, P.poolL_nt hsz] at hS2
  have HS2 := Lib.hid hS2; clear hS2
  have hB2 := HS2.out.blk 1 rfl
  unfold P.poolL at hB2
  go_wp2_with (refine wpList_load_any 31 _ rfl rfl _ 0 rfl cs _ (Blk.pre hB2) Try.underlying31 rfl (by rw [hsz]; kernel_rfl) ?_)
  refine (HA.out _ _ _ _).mono ?_
  rintro e w2 ⟨rfl, hf⟩
  clear hB1 k27 k28 k29 k30 f29 f30 kl hmd
  have HS := Lib.hid (HS2.out.fr0 hf); clear hf hB2 HS2
  have hB1 := HS.out.blk 1 rfl
  have kf := P.pf hsz seq mv v ⟨pn, pf, pwt, pwl, nt - 1, nl, lim, ps⟩
  have k27 := (hB1.cell 27).trans kf.wt
  have k28 := (hB1.cell 28).trans kf.wl
  have k29 := (hB1.cell 29).trans kf.nt
  have k30 := (hB1.cell 30).trans kf.nl
  have f29 := hB1.froz 29
  have f30 := hB1.froz 30
  have kl := hB1.lt
  have hmd := hB1.drew
  unfold P.poolL at hmd hB1
  clear kf
  go_wp2_with fail
  refine (HP.out _ _ _ hd HS.out _ _).mono ?_
  rintro e w3 ⟨rfl, h3⟩
  clear hB1 k27 k28 k29 k30 f29 f30 kl hmd
  have HS := Lib.hid h3; clear h3
  go_wp2_with fail
  go_loopg [39] 8 (fun g vi wr => ∃ j : Nat, g + j = 8 ∧ vi = .int .i64 (j : Int) ∧ Sep w0 wr (setT k (P.wipe c bb j (W.put s (at_ c 11 bb 0) 1).1) :: blkT b 162 (P.poolL cs seq mv v ⟨pn, pf, pwt, pwl, nt - 1, nl, lim, ps⟩) :: R))
  case atStart => exact ⟨0, by omega, rfl, HS.out⟩
  case round =>
    clear HS
    obtain ⟨j, hgj, rfl, hS⟩ := hrel
    have HS := Lib.hid hS; clear hS
    by_cases hj : j < 8
    · have hji : (j : Int) < 8 := by omega
      have hdj := HWI.out j
      have hdj2 : (P.wipe c bb j (W.put s (at_ c 11 bb 0) 1).1).done.length ≤ 1000000 := by omega
      clear hdj
      have hB1 := HS.out.blk 1 rfl
      have kf := P.pf hsz seq mv v ⟨pn, pf, pwt, pwl, nt - 1, nl, lim, ps⟩
      have k27 := (hB1.cell 27).trans kf.wt
      have k28 := (hB1.cell 28).trans kf.wl
      have k29 := (hB1.cell 29).trans kf.nt
      have k30 := (hB1.cell 30).trans kf.nl
      have f29 := hB1.froz 29
      have f30 := hB1.froz 30
      have kl := hB1.lt
      have hmd := hB1.drew
      unfold P.poolL at hmd hB1
      clear kf
      go_wp2_with (refine wpList_load_any 31 _ rfl rfl _ 0 rfl cs _ (Blk.pre hB1) Try.underlying31 rfl (by rw [hsz]; kernel_rfl) ?_)
      refine (HA.out _ _ _ _).mono ?_
      rintro e w2 ⟨rfl, hf⟩
      clear hB1 k27 k28 k29 k30 f29 f30 kl hmd
      have HS := Lib.hid (HS.out.fr0 hf); clear hf
      go_wp2_with fail
      refine (HP.out _ _ _ hdj2 HS.out _ _).mono ?_
      rintro e w3 ⟨rfl, h3⟩
      have HS := Lib.hid h3; clear h3
      go_wp2_with fail
      go_roundg (8 - (j + 1))
      case measure => omega
      case rel => exact ⟨j + 1, by omega, by go_num, HS.out⟩
    · obtain rfl : j = 8 := by omega
      go_wp2_with fail
      go_end0
      exact ⟨rfl, HTL.out ▸ HS.out⟩
theorem ptake_of {w0 w : World} {R : List Thing} (b k : Nat) (c : Cfg) (hok : Y.Ok c) (seq : Int) (mv v : Value) (p : P.St) (s : W.S) (bb : Int) (hnt : 0 ≤ p.nt ∧ p.nt ≤ c.b) (hd : s.done.length ≤ 900000) (hS : Sep w0 w (sp c seq b k mv v p s R)) :
    Calls Try.prog 40 #[.pointer (some ⟨b, 0, none⟩), .pointer (some ⟨k, 0, none⟩), .int .i64 bb] w fun e w' => e = .returned (.tuple #[]) ∧ Sep w0 w' (sp c seq b k mv v (P.take c bb p s).1 (P.take c bb p s).2 R) := by
  unfold P.take
  by_cases h : p.nt = 0
  · rw [if_pos (.inl h)]; exact ptake_none b k c hok seq mv v p s bb hnt h hd hS
  by_cases h1 : at_ c 11 bb 0 = -1
  · rw [if_pos (.inr h1)]; exact ptake_no b k c hok seq mv v p s bb hnt h h1 hd hS
  rw [if_neg (fun hh => hh.elim h h1)]; dsimp only; exact ptake_yes b k c hok seq mv v p s bb hnt h h1 hd hS
end Go.Proofs.Ytccioehckfdjdaa
