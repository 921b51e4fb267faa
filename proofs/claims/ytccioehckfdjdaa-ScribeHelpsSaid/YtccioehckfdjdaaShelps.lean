/- The law ScribeHelps, walked. -/
import Derived.Test.YtccioehckfdjdaaShpl
import Derived.Test.YtccioehckfdjdaaScalive
import Derived.Test.YtccioehckfdjdaaArgH
import Derived.Test.YtccioehckfdjdaaDofr
set_option linter.unusedSimpArgs false
set_option linter.unusedVariables false
namespace Go.Proofs.Ytccioehckfdjdaa
open Go.RowKit Go.Tum Go.Tum.Y Go.Tum.Sc
set_option maxRecDepth 100000 in
set_option maxHeartbeats 4000000 in
theorem shelps_s0 (w : World) (c : Cfg) (who : Int) (a : Option Addr) (m lc : Nat) (hrc : right c = false) : Calls Try.prog 14 #[cfgV c, .int .i64 who, .slice a m lc] w fun e w' => e = .returned (.bool true) ∧ Fr [] w w' := by
  have HS := Lib.hid ((Sep.nil (Fr.refl [] w)).new 24 (cfgL c))
  have HR := Lib.hid (fun w => rright12_any w c)
  have hsz6 : (cfgL c).length = 6 := rfl
  have g0 : (cfgL c)[0]? = some (.int .i64 c.t) := rfl
  have g4 : (cfgL c)[4]? = some (.int .u64 c.fi) := rfl
  have g5 : (cfgL c)[5]? = some (.int .u64 c.la) := rfl
  rw [show cfgV c = .agg (cfgL c).toArray from rfl] at *
  generalize cfgL c = cl at *
  go_enter Try.func14, Try.ntmps14
  go_wp2_with fail
  refine (alive13_any _).mono ?_
  rintro e w1 ⟨rfl, hf⟩
  have HS := Lib.hid (HS.out.fr0 hf)
  clear hf
  go_wp2_with (refine wpList_load_any 24 _ rfl rfl _ 0 rfl cl _ (HS.out.blk 0 rfl).range Try.underlying24 rfl (by rw [hsz6]; kernel_rfl) ?_)
  refine (HR.out _).mono ?_
  rintro e w1 ⟨rfl, hf⟩
  have HS := Lib.hid (HS.out.fr0 hf)
  clear hf
  rw [hrc]
  go_wp2_with fail
  go_ret
  exact ⟨rfl, HS.out.fr⟩
set_option maxRecDepth 100000 in
set_option maxHeartbeats 40000000 in
theorem shelps_good (w : World) (c : Cfg) (h : Ok c) (hf0 : 0 ≤ c.fi) (who : Int) (a : Option Addr) (m lc : Nat) (L : List (Int × Int)) (hLm : m = L.length) (hL : ArgE enE 2 w (.slice a m lc) L) (hG : ∀ e ∈ L, goodE e) (hrc : right c = true) :
    Calls Try.prog 14 #[cfgV c, .int .i64 who, .slice a m lc] w fun e w' => e = .returned (.bool true) ∧ Fr [] w w' := by
  have ht1 := h.t1
  have ht8 := h.t8
  have hfl := h.fl
  have hl47 := h.l47
  have HOF : Hid (∀ w, Calls Try.prog 25 #[.agg (cfgL c).toArray] w fun e w' => e = .returned (.tuple #[mapV c, .int .i64 0]) ∧ Fr [] w w') := fun w => of_good w c h
  have HCP := Lib.hid (fun w => rcap_any w c h)
  have HF7 := Lib.hid (fun w => rfrom_7 w c h)
  have HSZ := Lib.hid (fun w => rsize_any w c h)
  have hcb := cap_bd h
  have hsb := size_bd h
  obtain ⟨b2, hb2, hbe2⟩ := and_i64_low who 8 (by decide)
  obtain ⟨q2, hq2⟩ : ∃ q : Int, q = (b2 : Int) := ⟨_, rfl⟩
  have hbe2' : bits .and .i64 who 255 = q2 := by rw [hq2]; exact hbe2
  have hq20 : 0 ≤ q2 ∧ q2 ≤ 255 := by rw [hq2]; omega
  obtain ⟨r2, hr2⟩ : ∃ r, Int.tmod q2 c.t = r := ⟨_, rfl⟩
  have hr20 := tmod_in hr2 hq20.1 ht1
  obtain ⟨r1, hr1⟩ : ∃ r, Int.tmod (r2 + 1) c.t = r := ⟨_, rfl⟩
  have hr10 := tmod_in hr1 (by omega) ht1
  clear hbe2 hb2 hq2
  obtain ⟨sq, hsq⟩ : ∃ sq, sq = c.fi + 1 := ⟨_, rfl⟩
  have HBT := Lib.hid (fun w => boot_mem w c h)
  have HSN := Lib.hid (fun w hA hm hk => scnew_any w c h r2 sq (.slice a m lc) L hA hm L.length hk)
  have HSA := Lib.hid (fun w b la n lc d hB hr hK hn hd => scask_any w c h b r2 sq la n lc d L hB hr hK hn hd)
  have HNW := Lib.hid (fun w => hnew_of w c r1 r2 sq)
  have HAK := Lib.hid (fun (w0 w : World) (R : List Thing) (b : Nat) (u : Int) (hh : H.H) (hg : H.Good c hh) (hS : Sep w0 w (helpT c u r2 sq b hh :: R)) => hask_of b c h u r2 sq hh hg hS)
  have HTL := Lib.hid (fun (w0 w : World) (R : List Thing) (b : Nat) (u : Int) (hh : H.H) (x s : Int) (ok : Bool) hx hs hg hr (hS : Sep w0 w (helpT c u r2 sq b hh :: R)) => htell_any b c h u r2 sq hh x s ok hx hs hg hr hS)
  have HDN := Lib.hid (fun (w0 w : World) (R : List Thing) (b : Nat) (u : Int) (hh : H.H) (hS : Sep w0 w (helpT c u r2 sq b hh :: R)) => hdone_of b c u r2 sq hh hS)
  have HAD := Lib.hid (fun (u : Int) (hh : H.H) (hi : H.Inv c hh) => H.ask_done (c := c) (who := u) (owner := r2) (seq := sq) hi.rng)
  have HDO := Lib.hid (fun (w0 w : World) (R : List Thing) (b : Nat) (mm : C.M) (hS : Sep w0 w (memT b mm :: R)) (ht : mm.trace.length ≤ 100000) (u : Int) (p : P6) => mdo_any hS ht u (H.op6 p))
  have HAT4 := Lib.hid (fun w => at_any w c h 4 r2 0)
  unfold outVm at HDO
  simp only [opVm_of] at HDO
  have hsw : IntKind.u64.wrap (c.fi + 1) = sq := by rw [IntKind.wrap_u64]; omega
  have HSQ := Lib.hid hsq; clear hsq
  have hsz : (mapCells c).length = 24 := rfl
  have hone : ∀ v ∈ mapCells c, v.oneCell' = true := by simp [mapCells, Value.oneCell']
  have HLM := Lib.hid hLm; clear hLm
  unfold mapV at *
  generalize mapCells c = cs at *
  obtain ⟨ft, hft⟩ : ∃ x, x = fTag c := ⟨_, rfl⟩
  obtain ⟨sz, hsz0⟩ : ∃ x, x = size c := ⟨_, rfl⟩
  obtain ⟨cp, hcp⟩ : ∃ x, x = cap c := ⟨_, rfl⟩
  rw [← hft] at HF7; rw [← hsz0] at HSZ; rw [← hcp] at HCP
  rw [← hsz0] at hsb; rw [← hcp] at hcb
  have HFT := Lib.hid hft; have HSS := Lib.hid hsz0; have HCC := Lib.hid hcp; clear hft hsz0 hcp
  have HS := Lib.hid ((Sep.nil (Fr.refl [] w)).new 24 (cfgL c))
  have HR := Lib.hid (fun w => rright12_any w c)
  have hsz6 : (cfgL c).length = 6 := rfl
  have g0 : (cfgL c)[0]? = some (.int .i64 c.t) := rfl
  have g4 : (cfgL c)[4]? = some (.int .u64 c.fi) := rfl
  have g5 : (cfgL c)[5]? = some (.int .u64 c.la) := rfl
  rw [show cfgV c = .agg (cfgL c).toArray from rfl] at *
  generalize cfgL c = cl at *
  go_enter Try.func14, Try.ntmps14
  go_wp2_with fail
  refine (alive13_any _).mono ?_
  rintro e w1 ⟨rfl, hf⟩
  have HS := Lib.hid (HS.out.fr0 hf)
  clear hf
  go_wp2_with (refine wpList_load_any 24 _ rfl rfl _ 0 rfl cl _ (HS.out.blk 0 rfl).range Try.underlying24 rfl (by rw [hsz6]; kernel_rfl) ?_)
  refine (HR.out _).mono ?_
  rintro e w1 ⟨rfl, hf⟩
  have HS := Lib.hid (HS.out.fr0 hf)
  clear hf
  rw [hrc]
  have c0 := ((HS.out.blk 0 rfl).cell 0).trans g0
  have c4 := ((HS.out.blk 0 rfl).cell 4).trans g4
  have c5 := ((HS.out.blk 0 rfl).cell 5).trans g5
  have cl0 := (HS.out.blk 0 rfl).lt
  by_cases ht2 : c.t < 2
  · have d2 : decide (c.t < 2) = true := by simpa using ht2
    go_wp2_with fail
    go_ret
    exact ⟨rfl, HS.out.fr⟩
  have d2 : decide (c.t < 2) = false := by simp; omega
  by_cases hm30 : 30 < m
  · have d3 : decide ((m : Int) > 30) = true := by simp; omega
    go_wp2_with fail
    go_ret
    exact ⟨rfl, HS.out.fr⟩
  have d3 : decide ((m : Int) > 30) = false := by simp; omega
  go_wp2_with (refine wpList_load_any 24 _ rfl rfl _ 0 rfl cl _ (HS.out.blk 0 rfl).range Try.underlying24 rfl (by rw [hsz6]; kernel_rfl) ?_)
  refine (HCP.out _).mono ?_
  rintro e w1 ⟨rfl, hf⟩
  have HS := Lib.hid (HS.out.fr0 hf); clear hf c0 c4 c5 cl0
  have c0 := ((HS.out.blk 0 rfl).cell 0).trans g0
  have c4 := ((HS.out.blk 0 rfl).cell 4).trans g4
  have c5 := ((HS.out.blk 0 rfl).cell 5).trans g5
  have cl0 := (HS.out.blk 0 rfl).lt
  by_cases hmc : cp < m
  · have d4 : decide ((m : Int) > cp) = true := by simpa using hmc
    go_wp2_with fail
    go_ret
    exact ⟨rfl, HS.out.fr⟩
  have d4 : decide ((m : Int) > cp) = false := by simpa using hmc
  by_cases hfe : c.fi = c.la
  · have d1 : (c.fi == c.la) = true := by simpa using hfe
    go_wp2_with fail
    go_ret
    exact ⟨rfl, HS.out.fr⟩
  have d1 : (c.fi == c.la) = false := by simpa using hfe
  go_wp2_with fail
  clear c0 c4 c5 cl0
  have hmi : (m : Int) ≤ 30 := by omega
  go_loopg [60] m (fun g vi wr => ∃ k : Nat, g + k = m ∧ vi = .int .i64 (k : Int) ∧ (∀ i (hi : i < L.length), i < k → ft ≤ L[i].1 ∧ L[i].1 < sz) ∧ Sep w wr [blkT w.heap.size 24 cl])
  case atStart => exact ⟨0, by omega, rfl, fun i _ hi => by omega, HS.out⟩
  case round =>
    clear HS
    obtain ⟨k, hgk, rfl, hgd, hS⟩ := hrel
    have HGD := Lib.hid hgd; clear hgd
    by_cases hk : k < m
    · have hki : (k : Int) < (m : Int) := by omega
      have hkL : k < L.length := by have := HLM.out; omega
      obtain ⟨x, rfl, hx, c0, c1⟩ := (hL.fr hS.fr).at hkL
      have e0 := c0 _ rfl
      have e1 := c1 0 _ rfl
      simp only [Nat.zero_add, Nat.reduceAdd] at e1
      have HNX := Lib.hid (show ∀ E, E = L[k].1 → (ft ≤ E ∧ E < sz) → ∀ i (hi : i < L.length), i < k + 1 → ft ≤ L[i].1 ∧ L[i].1 < sz from fun E hE hr i hi hik => by
        by_cases e : i < k
        · exact HGD.out i hi e
        · obtain rfl : i = k := by omega
          subst hE
          exact hr)
      have hgg := hG _ (List.getElem_mem hkL)
      obtain ⟨E, hEe⟩ : ∃ E, E = L[k] := ⟨_, rfl⟩
      rw [← hEe] at e0 e1 HNX hgg
      clear hEe c0 c1
      obtain ⟨E1, E2⟩ := E
      dsimp only at e0 e1 HNX hgg
      have HS := Lib.hid (hS.new 136 [.int .i64 E1, .int .u64 E2]); clear hS
      have p0 := (HS.out.blk 0 rfl).cell 0
      have pl := (HS.out.blk 0 rfl).lt
      simp only [List.getElem?_cons_zero] at p0
      have hmc := (HS.out.blk 1 rfl).drew
      by_cases hlo : ft ≤ E1
      · have d2 : decide (E1 < ft) = false := by simp; omega
        by_cases hhi : E1 < sz
        · have d3 : decide (E1 ≥ sz) = false := by simp; omega
          go_wp2_with fail
          refine wp_region_fr [(1, [0, 1, 2]), (2, [3]), (1, [4, 5, 6, 7, 8]), (2, [9]), (0, [10, 11])] [] (by kernel_rfl) (by kernel_rfl) ?_
          simp only [theOps, nthOp, List.map_cons, List.map_nil, Array.getD_eq_getD_getElem?, List.getElem?_toArray, List.getElem?_cons_succ, List.getElem?_cons_zero, Option.getD_some]
          refine wpSegs_soft ?_
          iterate 2 (first | go_big_quiet_step (fail) | quiet_step (fail))
          refine wpQuiet_load_mid 24 _ w.heap.size 0 cl _ rfl rfl rfl (rangeAt_after hmc (by simp)) Try.underlying24 rfl (by rw [hsz6]; kernel_rfl) ?_
          simp only [Act.put, List.setIfInBounds_toArray, List.set_cons_zero, List.set_cons_succ]
          refine wpQuiet_nil ?_
          refine wpSegs_keep ?_
          go_wp2_with fail
          refine (HF7.out _).mono ?_
          rintro e wF ⟨rfl, hf⟩
          have HF := Lib.hid (hf); clear hf
          go_wp2_with fail
          refine ⟨⟨⟨_, (by exact HF.out)⟩, rfl⟩, ?_⟩
          refine wpSegs_soft ?_
          iterate 4 (first | go_big_quiet_step (fail) | quiet_step (fail))
          refine wpQuiet_load_mid 24 _ w.heap.size 0 cl _ rfl rfl rfl (rangeAt_after hmc (by simp)) Try.underlying24 rfl (by rw [hsz6]; kernel_rfl) ?_
          simp only [Act.put, List.setIfInBounds_toArray, List.set_cons_zero, List.set_cons_succ]
          refine wpQuiet_nil ?_
          refine wpSegs_keep ?_
          go_wp2_with fail
          refine (HSZ.out _).mono ?_
          rintro e wF ⟨rfl, hf⟩
          have HF := Lib.hid (HF.out.trans hf); clear hf
          go_wp2_with fail
          refine ⟨⟨⟨_, (by exact HF.out)⟩, rfl⟩, ?_⟩
          repeat ((first | refine wpSegs_soft ?_ | refine wpSegs_pure ?_ | refine wpSegs_here ?_); (repeat (first | go_big_quiet_step (fail) | quiet_step (fail))); refine wpQuiet_nil ?_)
          refine wpSegs_done ?_
          go_wp2_with fail
          have HS := Lib.hid (HS.out.drew.fr0 HF.out)
          have HGD := Lib.hid (HNX.out E1 rfl ⟨by omega, by omega⟩)
          go_roundg (m - (k + 1))
          case measure => omega
          case rel => exact ⟨k + 1, by omega, by go_num, HGD.out, HS.out.sub [1] rfl (by decide)⟩
        · have d3 : decide (E1 ≥ sz) = true := by simp; omega
          go_wp2_with fail
          refine wp_region_fr [(1, [0, 1, 2]), (2, [3]), (1, [4, 5, 6, 7, 8]), (2, [9]), (0, [10, 11])] [] (by kernel_rfl) (by kernel_rfl) ?_
          simp only [theOps, nthOp, List.map_cons, List.map_nil, Array.getD_eq_getD_getElem?, List.getElem?_toArray, List.getElem?_cons_succ, List.getElem?_cons_zero, Option.getD_some]
          refine wpSegs_soft ?_
          iterate 2 (first | go_big_quiet_step (fail) | quiet_step (fail))
          refine wpQuiet_load_mid 24 _ w.heap.size 0 cl _ rfl rfl rfl (rangeAt_after hmc (by simp)) Try.underlying24 rfl (by rw [hsz6]; kernel_rfl) ?_
          simp only [Act.put, List.setIfInBounds_toArray, List.set_cons_zero, List.set_cons_succ]
          refine wpQuiet_nil ?_
          refine wpSegs_keep ?_
          go_wp2_with fail
          refine (HF7.out _).mono ?_
          rintro e wF ⟨rfl, hf⟩
          have HF := Lib.hid (hf); clear hf
          go_wp2_with fail
          refine ⟨⟨⟨_, (by exact HF.out)⟩, rfl⟩, ?_⟩
          refine wpSegs_soft ?_
          iterate 4 (first | go_big_quiet_step (fail) | quiet_step (fail))
          refine wpQuiet_load_mid 24 _ w.heap.size 0 cl _ rfl rfl rfl (rangeAt_after hmc (by simp)) Try.underlying24 rfl (by rw [hsz6]; kernel_rfl) ?_
          simp only [Act.put, List.setIfInBounds_toArray, List.set_cons_zero, List.set_cons_succ]
          refine wpQuiet_nil ?_
          refine wpSegs_keep ?_
          go_wp2_with fail
          refine (HSZ.out _).mono ?_
          rintro e wF ⟨rfl, hf⟩
          have HF := Lib.hid (HF.out.trans hf); clear hf
          go_wp2_with fail
          refine ⟨⟨⟨_, (by exact HF.out)⟩, rfl⟩, ?_⟩
          repeat ((first | refine wpSegs_soft ?_ | refine wpSegs_pure ?_ | refine wpSegs_here ?_); (repeat (first | go_big_quiet_step (fail) | quiet_step (fail))); refine wpQuiet_nil ?_)
          refine wpSegs_done ?_
          go_wp2_with fail
          go_ret
          exact ⟨rfl, (HS.out.drew.fr0 HF.out).fr⟩
      · have d2 : decide (E1 < ft) = true := by simp; omega
        go_wp2_with fail
        refine wp_region_fr [(1, [0, 1, 2]), (2, [3]), (1, [4, 5, 6, 7, 8]), (2, [9]), (0, [10, 11])] [] (by kernel_rfl) (by kernel_rfl) ?_
        simp only [theOps, nthOp, List.map_cons, List.map_nil, Array.getD_eq_getD_getElem?, List.getElem?_toArray, List.getElem?_cons_succ, List.getElem?_cons_zero, Option.getD_some]
        refine wpSegs_soft ?_
        iterate 2 (first | go_big_quiet_step (fail) | quiet_step (fail))
        refine wpQuiet_load_mid 24 _ w.heap.size 0 cl _ rfl rfl rfl (rangeAt_after hmc (by simp)) Try.underlying24 rfl (by rw [hsz6]; kernel_rfl) ?_
        simp only [Act.put, List.setIfInBounds_toArray, List.set_cons_zero, List.set_cons_succ]
        refine wpQuiet_nil ?_
        refine wpSegs_keep ?_
        go_wp2_with fail
        refine (HF7.out _).mono ?_
        rintro e wF ⟨rfl, hf⟩
        have HF := Lib.hid (hf); clear hf
        go_wp2_with fail
        refine ⟨⟨⟨_, (by exact HF.out)⟩, rfl⟩, ?_⟩
        repeat ((first | refine wpSegs_soft ?_ | refine wpSegs_pure ?_ | refine wpSegs_here ?_); (repeat (first | go_big_quiet_step (fail) | quiet_step (fail))); refine wpQuiet_nil ?_)
        refine wpSegs_keep ?_
        go_wp2_with fail
        refine ⟨⟨⟨_, (by exact HF.out)⟩, rfl⟩, ?_⟩
        repeat ((first | refine wpSegs_soft ?_ | refine wpSegs_pure ?_ | refine wpSegs_here ?_); (repeat (first | go_big_quiet_step (fail) | quiet_step (fail))); refine wpQuiet_nil ?_)
        refine wpSegs_done ?_
        go_wp2_with fail
        go_ret
        exact ⟨rfl, (HS.out.drew.fr0 HF.out).fr⟩
    · obtain rfl : k = m := by omega
      have HRI : Hid (H.Right c L) := by
        have hlm := HLM.out
        refine ⟨by rw [← HCC.out]; omega, fun e he => ?_⟩
        obtain ⟨i, hi, rfl⟩ := List.getElem_of_mem he
        have := HGD.out i hi (by omega)
        have hge := hG _ (List.getElem_mem hi)
        rw [← HFT.out, ← HSS.out]
        exact ⟨this.1, this.2, hge.2.2⟩
      have HS := Lib.hid hS; clear hS HGD HCP HF7 HSZ
      go_wp2_with (refine wpList_load_any 24 _ rfl rfl _ 0 rfl cl _ (HS.out.blk 0 rfl).range Try.underlying24 rfl (by rw [hsz6]; kernel_rfl) ?_)
      refine (HOF.out _).mono ?_
      rintro e w2 ⟨rfl, hf⟩
      have HS := Lib.hid ((HS.out.fr0 hf).new 31 cs); clear hf
      have c0 := ((HS.out.blk 1 rfl).cell 0).trans g0
      have cl0 := (HS.out.blk 1 rfl).lt
      go_wp2_with (first | (refine wpList_store_new 31 _ (cs).toArray rfl _ _ rfl rfl rfl (by rw [List.size_toArray, hsz]; kernel_rfl) (by simp [hsz]) (all_oneCell_toArray hone) ?_) | (refine wpList_load_any 31 _ rfl rfl _ 0 rfl cs _ (HS.out.blk 0 rfl).range Try.underlying31 rfl (by rw [hsz]; kernel_rfl) ?_))
      refine (HBT.out _).mono ?_
      rintro e w3 ⟨mb, rfl, hN⟩
      have hS := HS.out.append hN
      simp only [List.cons_append, List.nil_append] at hS
      have HS := Lib.hid hS; clear hS hN c0 cl0
      have c4 := ((HS.out.blk 2 rfl).cell 4).trans g4
      have cl4 := (HS.out.blk 2 rfl).lt
      go_wp2_with (refine wpList_load_any 31 _ rfl rfl _ 0 rfl cs _ (HS.out.blk 1 rfl).range Try.underlying31 rfl (by rw [hsz]; kernel_rfl) ?_)
      have hnk : L.length = k := HLM.out.symm
      refine (HSN.out _ (hL.fr HS.out.fr) (by omega) (by have := HRI.out.len; omega)).mono ?_
      rintro e w4 ⟨sb, v', rfl, hN⟩
      rw [List.take_length] at hN
      have hS := HS.out.append hN
      simp only [List.cons_append, List.nil_append] at hS
      have HS := Lib.hid hS; clear hS hN
      obtain ⟨la, lc', rfl⟩ := HS.out.form 1 rfl
      obtain ⟨n, hn⟩ : ∃ n, n = L.length := ⟨_, rfl⟩
      rw [← hn] at HS hnk
      obtain rfl : n = k := hnk
      have HNL := Lib.hid hn; clear hn
      obtain ⟨askf, haf⟩ : ∃ askf : Nat → P6, askf = fun d => if d ≤ n + 1 then Sc.opAt c r2 sq L n d else p0 := ⟨_, rfl⟩
      have HAF := Lib.hid (fun d (hd : d ≤ n + 1) => show askf d = Sc.opAt c r2 sq L L.length d by rw [haf]; dsimp only; rw [if_pos hd, HNL.out])
      have HSA2 := Lib.hid (fun w d hB hr hd => by
        have := HSA.out w sb la n lc' d hB hr HNL.out.symm (by omega) hd
        rw [show (if d ≤ n + 1 then Sc.opAt c r2 sq L n d else p0) = askf d by rw [haf]] at this
        exact this)
      clear haf HSA
      have hlc : (L.length : Int) ≤ cap c := HRI.out.len
      have HSD : Hid (∀ d, d ≤ n + 1 → (H.scM c r2 sq L d).step r2 (H.op6 (askf d)) = H.scM c r2 sq L (d + 1)) := fun d hd => by rw [HAF.out d hd]; rfl
      have HST := Lib.hid (fun d => H.scM_trace (seq := sq) h hr20 hlc d)
      generalize hsm : H.scM c r2 sq L = sm at HSD HST
      have HSM := Lib.hid hsm
      have hS := HS.out
      rw [show H.bootM c = sm 0 by rw [← hsm]; rfl] at hS
      have HS := Lib.hid hS; clear hS hsm
      go_wp2_with fail
      refine (HSA2.out _ 0 (HS.out.blk 0 rfl) (HS.out.row 1 rfl) (by omega)).mono ?_
      rintro e w5 ⟨rfl, hf⟩
      have hS := (HS.out.fr0 hf).new 43 (enP (askf 0))
      have HS := Lib.hid hS; clear hS hf c4 cl4
      have honeO := enP_one (askf 0)
      go_wp2_with (refine wpList_store_new 43 _ (enP (askf 0)).toArray rfl _ _ rfl rfl rfl (by kernel_rfl) (by simp [enP]) (all_oneCell_toArray honeO) ?_)
      clear honeO
      go_loopg [13, 14] (n + 2) (fun g vp vb wr => ∃ (d X : Nat), g + d = n + 2 ∧ vp = .pointer (some ⟨X, 0, none⟩) ∧ vb = .bool (decide (d ≤ n + 1)) ∧ Sep w wr [blkT X 43 (enP (askf d)), blkT sb 205 (scL cs r2 sq (.slice la n lc') d), rowT 0 136 2 (.slice la n lc') n (flat enE L), memT mb (sm d), blkT w2.heap.size 31 cs, blkT w.heap.size 24 cl])
      case atStart => exact ⟨0, _, by omega, rfl, by simp, HS.out⟩
      case round =>
        clear HS
        obtain ⟨d, X, hgd, rfl, rfl, hS⟩ := hrel
        have HS := Lib.hid hS; clear hS
        by_cases hd : d ≤ n + 1
        · rw [decide_eq_true hd]
          go_wp2_with (refine wpList_load_any 43 _ rfl rfl _ 0 rfl (enP (askf d)) _ (HS.out.blk 0 rfl).range Try.underlying43 rfl (by kernel_rfl) ?_)
          refine (HDO.out _ _ _ mb (sm d) (HS.out.pull 3 rfl) (by rw [HST.out]; omega) r2 (askf d)).mono ?_
          rintro e w6 ⟨rfl, hS⟩
          rw [HSD.out d hd] at hS
          generalize (sm d).told r2 (H.op6 (askf d)) = tt at *
          obtain ⟨t0, t1, t2⟩ := tt
          generalize C.err (sm d).cells.length r2 (H.op6 (askf d)) = er at *
          have HS := Lib.hid (hS.new 55 [.int .u64 t0, .int .u64 t1, .bool t2]); clear hS
          go_wp2_with (refine wpList_load_any 55 _ rfl rfl _ 0 rfl [.int .u64 t0, .int .u64 t1, .bool t2] _ (HS.out.blk 0 rfl).range Try.underlying55 rfl (by kernel_rfl) ?_)
          refine (tell_go sb cs hsz r2 sq la n lc' d t0 t1 t2 (HS.out.pull 3 rfl) (by omega) (by omega) (by simp; omega)).mono ?_
          rintro e w7 ⟨rfl, hS⟩
          have HS := Lib.hid hS
          have hS2 := hS.new 43 (enP (askf d))
          have HS2 := Lib.hid hS2; clear hS hS2
          have honeO := enP_one (askf d)
          go_wp2_with (first | (refine wpList_load_any 43 _ rfl rfl _ 0 rfl (enP (askf d)) _ (HS.out.blk 3 rfl).range Try.underlying43 rfl (by kernel_rfl) ?_) | (refine wpList_store_new 43 _ (enP (askf d)).toArray rfl _ _ rfl rfl rfl (by kernel_rfl) (by simp [enP]) (all_oneCell_toArray honeO) ?_))
          refine (HSA2.out _ (d + 1) (HS2.out.blk 1 rfl) (HS2.out.row 5 rfl) (by omega)).mono ?_
          rintro e w8 ⟨rfl, hf⟩
          have HS := Lib.hid (HS2.out.fr0 hf); clear hf HS2 honeO
          have honeO := enP_one (askf (d + 1))
          go_wp2_with (refine wpList_store_sep HS.out 0 rfl (enP (askf (d + 1))) 43 _ _ rfl rfl rfl rfl rfl (by kernel_rfl) honeO (fun wT hT _ => ?_); have HS3 := Lib.hid hT; clear hT)
          go_roundg (n + 2 - (d + 1))
          case measure => omega
          case rel => exact ⟨d + 1, _, by omega, rfl, by simp, HS3.out.sub [0, 1, 5, 3, 6, 7] rfl (by decide)⟩
        · obtain rfl : d = n + 2 := by omega
          rw [decide_eq_false hd]
          go_wp2_with fail
          obtain ⟨_, vc, vt, hM⟩ := sep_mem HS.out 3 rfl
          refine (total_any _ mb vc vt (sm (n + 2)) hM).mono ?_
          rintro e w6 ⟨rfl, rfl⟩
          clear hM
          have htr := HST.out (n + 2)
          obtain ⟨tr, htr2⟩ : ∃ tr : Nat, tr = (sm (n + 2)).trace.length := ⟨_, rfl⟩
          rw [← htr2] at htr ⊢
          have dT : ((tr : Int) != (n : Int) + 2) = false := by
            have : (tr : Int) = (n : Int) + 2 := by omega
            simp [this]
          have HTR := Lib.hid htr2; clear htr2
          have HTR2 := Lib.hid htr; clear htr
          go_wp2_with fail
          refine (done_any _ sb cs hsz r2 sq la n lc' (n + 2) (HS.out.blk 1 rfl) (by omega) (by omega)).mono ?_
          rintro e w7 ⟨rfl, hf⟩
          rw [decide_eq_true (show n + 2 > n + 1 by omega)]
          have HS := Lib.hid ((HS.out.fr0 hf).sub (Ts' := [_, _, _]) [3, 4, 5] rfl (by decide)); clear hf dT
          have c0 := ((HS.out.blk 2 rfl).cell 0).trans g0
          have c4 := ((HS.out.blk 2 rfl).cell 4).trans g4
          have cl0 := (HS.out.blk 2 rfl).lt
          have hmd := (HS.out.blk 1 rfl).drew
          go_wp2_with fail
          refine wp_region_fr [(1, [0, 1, 2, 3, 4, 5, 6, 7, 8, 9]), (2, [10]), (0, [11])] [] (by kernel_rfl) (by kernel_rfl) ?_
          simp only [theOps, nthOp, List.map_cons, List.map_nil, Array.getD_eq_getD_getElem?, List.getElem?_toArray, List.getElem?_cons_succ, List.getElem?_cons_zero, Option.getD_some]
          refine wpSegs_soft ?_
          refine wpQuiet_load_mid 31 _ w2.heap.size 0 cs _ rfl rfl rfl (rangeAt_after hmd (by simp)) Try.underlying31 rfl (by rw [hsz]; kernel_rfl) ?_
          simp only [Act.put, List.setIfInBounds_toArray, List.set_cons_zero, List.set_cons_succ]
          repeat (first | go_big_quiet_step (fail) | quiet_step (fail))
          refine wpQuiet_nil ?_
          refine wpSegs_keep ?_
          go_wp2_with fail
          refine (HNW.out _).mono ?_
          rintro e w8 ⟨hb, rfl, hN⟩
          have HF := Lib.hid hN.fr
          have hS := HS.out.drew.append hN
          simp only [List.cons_append, List.nil_append] at hS
          have HS := Lib.hid hS; clear hS hN c0 c4 cl0 hmd
          go_wp2_with fail
          refine ⟨⟨⟨_, (by exact HF.out)⟩, rfl⟩, ?_⟩
          repeat ((first | refine wpSegs_soft ?_ | refine wpSegs_pure ?_ | refine wpSegs_here ?_); (repeat (first | go_big_quiet_step (fail) | quiet_step (fail))); refine wpQuiet_nil ?_)
          refine wpSegs_done ?_
          obtain ⟨B, hB⟩ : ∃ B, B = H.laidM c r2 sq L := ⟨_, rfl⟩
          have hsq1 : 1 ≤ sq := by have := HSQ.out; omega
          have HJ : Hid (H.Job c r2 sq L B) := by rw [hB]; exact H.laid_job h hf0 hr20 HRI.out hsq1
          have hlen2 : n + 2 = L.length + 2 := by have := HNL.out; omega
          have HK0 : Hid (H.MOk c r2 sq L B (sm (n + 2)) ∧ (sm (n + 2)).trace.length ≤ 32) := by
            rw [hB]
            refine ⟨H.laid_mok h hf0 hr20 HRI.out hsq1 (by rw [← HSM.out]; exact H.scM_len _ _ _ _ _) (fun a ha => by rw [← HSM.out, hlen2]; exact H.scM_laid h hr20 hlc a ha), by have := HTR.out; have := HTR2.out; omega⟩
          have HSTP0 := Lib.hid (fun (u : Int) (hh : H.H) (mm : C.M) (hm : H.MOk c r2 sq L B mm) (ht : H.TOk c r2 sq L B mm hh) (hw : 0 ≤ u ∧ u < c.t) (h8 : hh.next ≠ 8) => H.step_ok HJ.out hm ht hw h8)
          have HT0 := Lib.hid (H.tok_new HJ.out (sm (n + 2)))
          clear hB hlen2 HSM HST HSD HAF HSA2 HTR HTR2
          generalize sm (n + 2) = mm at *
          have hgas := HT0.out.most
          go_wp2_with fail
          refine (HAK.out _ _ _ hb r1 _ HT0.out.inv.good (HS.out.pull 0 rfl)).mono ?_
          rintro e w9 ⟨rfl, hf⟩
          rw [HAD.out r1 _ HT0.out.inv]
          generalize H.hNew = hh at *
          have hS := (HS.out.fr0 hf).new 43 (enP (H.ask c r1 r2 sq hh).1)
          have HS := Lib.hid hS; clear hS hf
          have honeO := enP_one (H.ask c r1 r2 sq hh).1
          go_wp2_with (refine wpList_store_new 43 _ (enP (H.ask c r1 r2 sq hh).1).toArray rfl _ _ rfl rfl rfl (by kernel_rfl) (by simp [enP]) (all_oneCell_toArray honeO) ?_)
          clear honeO
          obtain ⟨G, hG2⟩ : ∃ G : Nat, G = (H.ms L hh).toNat := ⟨_, rfl⟩
          have HK2 : Hid (H.MOk c r2 sq L B mm ∧ H.TOk c r2 sq L B mm hh ∧ H.ms L hh = (G : Int) ∧ mm.trace.length + G ≤ 300) := ⟨HK0.out.1, HT0.out, by have := HT0.out.nn; omega, by have := HK0.out.2; have := HNL.out; have := HT0.out.nn; omega⟩
          clear HK0 HT0 hgas hG2
          go_loopg [18, 19] G (fun g vp vb wr => ∃ (hh : H.H) (mm : C.M) (X : Nat), vp = .pointer (some ⟨X, 0, none⟩) ∧ vb = .bool (!decide (hh.next = 8)) ∧ (H.MOk c r2 sq L B mm ∧ H.TOk c r2 sq L B mm hh ∧ H.ms L hh = (g : Int) ∧ mm.trace.length + g ≤ 300) ∧ Sep w wr [blkT X 43 (enP (H.ask c r1 r2 sq hh).1), helpT c r1 r2 sq hb hh, memT mb mm, blkT w2.heap.size 31 cs, blkT w.heap.size 24 cl])
          case atStart => exact ⟨_, _, _, rfl, rfl, HK2.out, HS.out⟩
          case round =>
            clear HS HK2
            obtain ⟨hh, mm, X, rfl, rfl, hk0, hS⟩ := hrel
            have HK := Lib.hid hk0; clear hk0
            have HS := Lib.hid hS; clear hS
            by_cases h8 : hh.next = 8
            · rw [decide_eq_true h8]
              have HH8 := Lib.hid h8; clear h8
              have hop := HK.out.2.1.over HH8.out
              have HFI := Lib.hid (HK.out.1.final HJ.out hop)
              have HOP := Lib.hid hop; clear hop
              have HLN := Lib.hid HK.out.1.len
              have hS := (HS.out.sub (Ts' := [_, _, _, _]) [1, 2, 3, 4] rfl (by decide)).mapNew Try.prog 3 3 .i64 .i64
              have hz0 : (fun _ : Int => (0 : Int)) = H.cntF L 0 := by funext z; simp [H.cntF]
              rw [hz0] at hS
              have HS := Lib.hid hS; clear hS hz0
              have hmm := @run_makeMap Try.prog
              go_wp2_with fail
              generalize wr.heap.size = bm at HS ⊢
              go_loopg [169] n (fun g vi wr => ∃ k : Nat, g + k = n ∧ vi = .int .i64 (k : Int) ∧ Sep w wr [mapT Try.prog 3 3 .i64 .i64 bm k (H.cntF L k), helpT c r1 r2 sq hb hh, memT mb mm, blkT w2.heap.size 31 cs, blkT w.heap.size 24 cl])
              case atStart => exact ⟨0, by omega, rfl, HS.out⟩
              case round =>
                clear HS
                obtain ⟨k, hgk, rfl, hS⟩ := hrel
                by_cases hk : k < n
                · have hki : (k : Int) < (n : Int) := by omega
                  have hkL : k < L.length := by have := HNL.out; omega
                  obtain ⟨x, rfl, hx, c0, c1⟩ := (hL.fr hS.fr).at hkL
                  have e0 := c0 _ rfl
                  have e1 := c1 0 _ rfl
                  simp only [Nat.zero_add, Nat.reduceAdd] at e1
                  have hge := HRI.out.ent _ (List.getElem_mem hkL)
                  have hcs := fun z => H.cntF_succ hkL z
                  have hle1 := H.cntF_le L k L[k].1
                  have hfin := HFI.out _ (List.getElem_mem hkL)
                  have hvf : H.cntF L k L[k].1 = 0 → H.valAt L L[k].1 = L[k].2 := fun h0 => H.valAt_first hkL fun j hj => H.cntF_no h0 j (by omega) hj
                  have hsb2 := size_bd h
                  have hft2 := (bds h).tag
                  have hpk : peek mm L[k].1 = ((H.valAt L L[k].1, sq), true) := by
                    unfold peek
                    rw [if_pos (by have := HLN.out; omega)]
                    exact congrArg (fun z => (z, true)) hfin
                  obtain ⟨E, hEe⟩ : ∃ E, E = L[k] := ⟨_, rfl⟩
                  rw [← hEe] at e0 e1 hge hcs hle1 hfin hvf hpk
                  clear hEe c0 c1
                  obtain ⟨E1, E2⟩ := E
                  dsimp only at e0 e1 hge hcs hle1 hfin hvf hpk
                  have hwf : (Lit.int .i64 E1).wf = true := WalkArith.wf_i64 ⟨by omega, by omega⟩
                  have hwf1 : (Lit.int .i64 (H.cntF L k E1 + 1)).wf = true := WalkArith.wf_i64 (by omega)
                  have hkm : k < maxLen := by unfold maxLen; omega
                  have hzz : (fun z => if z = E1 then H.cntF L k E1 + 1 else H.cntF L k z) = H.cntF L (k + 1) := by
                    funext z
                    rw [hcs z]
                    by_cases e : z = E1
                    · rw [if_pos e, if_pos e, e]
                    · rw [if_neg e, if_neg e]
                  have hc1 : H.cntF L (k + 1) E1 = H.cntF L k E1 + 1 := by rw [← hzz]; exact if_pos rfl
                  have HS := Lib.hid (hS.new 136 [.int .i64 E1, .int .u64 E2]); clear hS
                  have HZZ := Lib.hid hzz; clear hzz
                  have HC1 := Lib.hid hc1
                  have HPK := Lib.hid hpk
                  have HVF := Lib.hid hvf
                  clear hcs hge hfin hpk hvf hft2 hsb2 hc1
                  generalize hq : H.cntF L k E1 = q at *
                  have HQ := Lib.hid hq; clear hq
                  go_wp2_with (first
                    | (at_lookup; go_must (refine wpList_lookup_sep HS.out 1 rfl (by rfl) _ _ 72 rfl Try.underlying3 Try.underlying72 Try.underlying3 zeroInt12 rfl E1 rfl hwf ?_; rw [HQ.out]))
                    | (at_mapUpdate; go_must (refine wpList_update_sep HS.out 1 rfl rfl _ _ _ 72 rfl Try.underlying3 Try.underlying72 Try.underlying3 rfl E1 rfl hwf (q + 1) rfl hwf1 hkm ?_); intro wU hU fU; have HU := Lib.hid hU; have p0 : wU.cell? ⟨wr.heap.size, 0, none⟩ = some (.int .i64 E1) := (hU.blk 0 rfl).cell 0; have pl := (hU.blk 0 rfl).lt; clear hU fU))
                  have hU : Sep w wU (blkT wr.heap.size 136 [.int .i64 E1, .int .u64 E2] :: mapT Try.prog 3 3 .i64 .i64 bm (k + 1) (fun z => if z = E1 then q + 1 else H.cntF L k z) :: _) := HU.out
                  rw [HZZ.out] at hU
                  have HS := Lib.hid hU; clear hU HU
                  obtain ⟨_, vc, vt, hM⟩ := sep_mem HS.out 3 rfl
                  refine (peek_any _ mb vc vt _ _ hM).mono ?_
                  rintro e w9 ⟨rfl, hf⟩
                  rw [HPK.out]
                  dsimp only
                  have HS := Lib.hid ((HS.out.fr0 hf).new 41 [.int .u64 (H.valAt L E1), .int .u64 sq]); clear hf hM p0 pl
                  have p0 := (HS.out.blk 1 rfl).cell 0
                  have p1 := (HS.out.blk 1 rfl).cell 1
                  have z0 := (HS.out.blk 0 rfl).cell 0
                  have z1 := (HS.out.blk 0 rfl).cell 1
                  have pl := (HS.out.blk 1 rfl).lt
                  have zl := (HS.out.blk 0 rfl).lt
                  simp only [List.getElem?_cons_zero, List.getElem?_cons_succ] at p0 p1 z0 z1
                  have c4 := ((HS.out.blk 6 rfl).cell 4).trans g4
                  have cl0 := (HS.out.blk 6 rfl).lt
                  have hqs : H.cntF L (k + 1) E1 = q + 1 := by rw [HC1.out]
                  have HQS := Lib.hid hqs; clear hqs
                  by_cases hq0 : q = 0
                  · subst hq0
                    have hv := HVF.out rfl
                    rw [hv] at z0 z1 p0 p1 c4 pl zl cl0 HS ⊢
                    go_wp2_with (at_lookup; go_must (refine wpList_lookup_sep HS.out 2 rfl (by rfl) _ _ 72 rfl Try.underlying3 Try.underlying72 Try.underlying3 zeroInt12 rfl E1 rfl hwf ?_; rw [HQS.out]))
                    go_roundg (n - (k + 1))
                    case measure => omega
                    case rel => exact ⟨k + 1, by omega, by go_num, HS.out.sub [2, 3, 4, 5, 6] rfl (by decide)⟩
                  · have dq : (q + 1 == 1) = false := by simp; omega
                    go_wp2_with (at_lookup; go_must (refine wpList_lookup_sep HS.out 2 rfl (by rfl) _ _ 72 rfl Try.underlying3 Try.underlying72 Try.underlying3 zeroInt12 rfl E1 rfl hwf ?_; rw [HQS.out]))
                    go_roundg (n - (k + 1))
                    case measure => omega
                    case rel => exact ⟨k + 1, by omega, by go_num, HS.out.sub [2, 3, 4, 5, 6] rfl (by decide)⟩
                · obtain rfl : k = n := by omega
                  have HS := Lib.hid hS; clear hS
                  have hi4 := (H.is_own h hr20).2.1
                  have hw4 := wh_place h hi4
                  have hpk : peek mm (at_ c 4 r2 0) = ((0, sq), true) := by
                    rw [H.at_is hi4]
                    unfold peek
                    rw [if_pos (by have := HLN.out; omega)]
                    exact congrArg (fun z => (z, true)) HOP.out
                  have HPK := Lib.hid hpk
                  clear hpk hi4 hw4
                  generalize at_ c 4 r2 0 = a4 at HPK HAT4
                  go_wp2_with (refine wpList_load_any 31 _ rfl rfl _ 0 rfl cs _ (HS.out.blk 3 rfl).range Try.underlying31 rfl (by rw [hsz]; kernel_rfl) ?_)
                  refine (HAT4.out _).mono ?_
                  rintro e w5 ⟨rfl, hf⟩
                  have HS := Lib.hid (HS.out.fr0 hf); clear hf
                  go_wp2_with fail
                  obtain ⟨_, vc, vt, hM⟩ := sep_mem HS.out 2 rfl
                  refine (peek_any _ mb vc vt _ _ hM).mono ?_
                  rintro e w9 ⟨rfl, hf⟩
                  rw [HPK.out]
                  dsimp only
                  have HS := Lib.hid ((HS.out.fr0 hf).new 41 [.int .u64 0, .int .u64 sq]); clear hf hM
                  go_wp2_with fail
                  refine (HDN.out _ _ _ hb r1 hh (HS.out.pull 2 rfl)).mono ?_
                  rintro e w10 ⟨rfl, hf⟩
                  rw [decide_eq_true HH8.out]
                  have HS := Lib.hid (HS.out.fr0 hf); clear hf
                  have c4 := ((HS.out.blk 5 rfl).cell 4).trans g4
                  have cl0 := (HS.out.blk 5 rfl).lt
                  have z0 := (HS.out.blk 0 rfl).cell 0
                  have z1 := (HS.out.blk 0 rfl).cell 1
                  have zl := (HS.out.blk 0 rfl).lt
                  simp only [List.getElem?_cons_zero, List.getElem?_cons_succ] at z0 z1
                  have HCL : ∀ w, (binOp .eql 41 (.agg #[.int .u64 0, .int .u64 sq]) (.agg #[.int .u64 0, .int .u64 sq])).run Try.prog w = .ok (.bool true) w := fun w => eql_cell_self w 0 sq
                  go_wp2_with fail
                  go_ret
                  exact ⟨rfl, HS.out.fr⟩
            · rw [decide_eq_false h8]
              have HH8 := Lib.hid h8; clear h8
              have hgp : 1 ≤ gk := by have := HK.out.2.1.pos HH8.out; have := HK.out.2.2.1; omega
              generalize hoo : (H.ask c r1 r2 sq hh).1 = o at *
              have HOO := Lib.hid hoo; clear hoo
              have hstp := HSTP0.out r1 hh mm HK.out.1 HK.out.2.1 hr10 HH8.out
              have hdw := H.Stp.down HJ.out HK.out.1 HK.out.2.1 HH8.out hstp
              rw [HOO.out] at hstp hdw
              have HSTP := Lib.hid hstp; clear hstp
              have hva := HSTP.out.val
              have HNX : Hid (H.MOk c r2 sq L B (mm.step r1 (H.op6 o)) ∧ H.TOk c r2 sq L B (mm.step r1 (H.op6 o)) (H.tell c sq (mm.told r1 (H.op6 o)).v (mm.told r1 (H.op6 o)).s hh) ∧ H.ms L (H.tell c sq (mm.told r1 (H.op6 o)).v (mm.told r1 (H.op6 o)).s hh) < (gk : Int) ∧ (mm.step r1 (H.op6 o)).trace.length + gk ≤ 301) :=
                ⟨HSTP.out.mem, HSTP.out.thr, by have := HK.out.2.2.1; omega, by rw [H.step_trace1 HSTP.out.err]; have := HK.out.2.2.2; omega⟩
              clear HSTP hdw
              obtain ⟨F, hF⟩ := mem_fp HS.out.drew (i := 2) rfl
              have hnX := mem_notin HS.out.drew (i := 2) (j := 0) (by decide) rfl rfl hF
              have hnC := mem_notin HS.out.drew (i := 2) (j := 4) (by decide) rfl rfl hF
              have HDO2 := Lib.hid (fun (w' : World) (Ts : List Thing) (i : Nat) (hS : Sep w w' Ts) (hi : Ts[i]? = some (memT mb mm)) (hF : (memT mb mm).P w' F) => mdo_frame hS i hi hF (by have := HK.out.2.2.2; omega) r1 (H.op6 o))
              unfold outVm at HDO2
              simp only [opVm_of] at HDO2
              have HFF := Lib.hid hF; clear hF
              generalize mm.told r1 (H.op6 o) = tt at *
              obtain ⟨t0, t1, t2⟩ := tt
              dsimp only at hva HNX HDO2
              generalize mm.step r1 (H.op6 o) = mm2 at *
              generalize C.err mm.cells.length r1 (H.op6 o) = er at *
              have honeT : ∀ u ∈ [Value.int .u64 t0, .int .u64 t1, .bool t2], u.oneCell' = true := by simp [Value.oneCell']
              have c0 := ((HS.out.blk 4 rfl).cell 0).trans g0
              have cl0 := (HS.out.blk 4 rfl).lt
              have hmx := (HS.out.blk 0 rfl).drew
              go_wp2_with fail
              refine step_start ([7, 11], [12]) F (by kernel_rfl) ?_
              refine step_reads (N := 7) [0, 1, 2, 3, 4, 5, 6] (by kernel_rfl) ⟨⟨_, Fr.refl _ _⟩, rfl⟩ ?_
              simp only [theOps, nthOp, List.map_cons, List.map_nil, Array.getD_eq_getD_getElem?, List.getElem?_toArray, List.getElem?_cons_succ, List.getElem?_cons_zero, Option.getD_some]
              iterate 6 (first | go_big_quiet_step (fail) | quiet_step (fail))
              refine wpQuiet_load_mid 43 _ X 0 (enP o) _ rfl rfl rfl (rangeAt_after hmx hnX) Try.underlying43 rfl (by kernel_rfl) ?_
              simp only [Act.put, List.setIfInBounds_toArray, List.set_cons_zero, List.set_cons_succ]
              refine wpQuiet_nil ?_
              clear c0 cl0 hmx
              have HS := Lib.hid HS.out.drew
              refine step_two (N := 6) 7 11 (by kernel_rfl) rfl rfl ?_ ?_
              · go_wp2_with fail
                refine (HDO2.out _ _ 2 HS.out rfl HFF.out).mono ?_
                rintro e w7 ⟨rfl, hS, hf⟩
                have HF := Lib.hid hf; clear hf
                have HS := Lib.hid (hS.new 55 [.int .u64 0, .int .u64 0, .bool false]); clear hS
                go_wp2_with fail
                refine ⟨⟨⟨_, HF.out⟩, rfl⟩, ?_⟩
                refine step_pures (N := 3) [8, 9, 10] (by kernel_rfl) ?_
                simp only [theOps, nthOp, List.map_cons, List.map_nil, Array.getD_eq_getD_getElem?, List.getElem?_toArray, List.getElem?_cons_succ, List.getElem?_cons_zero, Option.getD_some]
                repeat (first | go_big_quiet_step (fail) | quiet_step (fail))
                refine wpQuiet_nil ?_
                refine step_keep (N := 2) 11 (by kernel_rfl) rfl ?_
                go_wp2_with fail
                refine ⟨⟨⟨_, HF.out.alloc _⟩, rfl⟩, ?_⟩
                refine step_hard (N := 1) 12 (by kernel_rfl) rfl ?_
                go_wp2_with (refine wpList_store_sep HS.out 0 rfl [.int .u64 t0, .int .u64 t1, .bool t2] 55 _ _ rfl rfl rfl rfl rfl (by kernel_rfl) honeT (fun wA hA _ => ?_); have HA := Lib.hid hA; clear hA)
                refine step_pures (N := 0) [13] (by kernel_rfl) ?_
                simp only [theOps, nthOp, List.map_cons, List.map_nil, Array.getD_eq_getD_getElem?, List.getElem?_toArray, List.getElem?_cons_succ, List.getElem?_cons_zero, Option.getD_some]
                repeat (first | go_big_quiet_step (fail) | quiet_step (fail))
                refine wpQuiet_nil ?_
                refine step_done (by kernel_rfl) ?_
                have HS := Lib.hid (show Sep w wA [blkT _ 55 [.int .u64 t0, .int .u64 t1, .bool t2], blkT X 43 (enP o), helpT c r1 r2 sq hb hh, memT mb mm2, blkT w2.heap.size 31 cs, blkT w.heap.size 24 cl] from HA.out)
                go_wp2_with (refine wpList_load_any 55 _ rfl rfl _ 0 rfl [.int .u64 t0, .int .u64 t1, .bool t2] _ (HS.out.blk 0 rfl).range Try.underlying55 rfl (by kernel_rfl) ?_)
                refine (HTL.out _ _ _ hb r1 hh t0 t1 t2 hva.1 hva.2 HK.out.2.1.inv.good HK.out.2.1.inv.rng (HS.out.pull 2 rfl)).mono ?_
                rintro e w8 ⟨rfl, hS⟩
                have HS := Lib.hid hS; clear hS
                have HS2 := Lib.hid (HS.out.new 43 (enP o))
                have honeO := enP_one o
                go_wp2_with (first | (refine wpList_load_any 43 _ rfl rfl _ 0 rfl (enP o) _ (HS.out.blk 2 rfl).range Try.underlying43 rfl (by kernel_rfl) ?_) | (refine wpList_store_new 43 _ (enP o).toArray rfl _ _ rfl rfl rfl (by kernel_rfl) (by simp [enP]) (all_oneCell_toArray honeO) ?_))
                generalize hh2 : H.tell c sq t0 t1 hh = hn2 at *
                clear hh2
                refine (HAK.out _ _ _ hb r1 hn2 HNX.out.2.1.inv.good (HS2.out.pull 1 rfl)).mono ?_
                rintro e w9 ⟨rfl, hf⟩
                rw [HAD.out r1 hn2 HNX.out.2.1.inv]
                have HS := Lib.hid (HS2.out.fr0 hf); clear hf HS2 honeO
                have honeO := enP_one (H.ask c r1 r2 sq hn2).1
                go_wp2_with (refine wpList_store_sep HS.out 0 rfl (enP (H.ask c r1 r2 sq hn2).1) 43 _ _ rfl rfl rfl rfl rfl (by kernel_rfl) honeO (fun wT hT _ => ?_); have HS3 := Lib.hid hT; clear hT)
                go_roundg ((H.ms L hn2).toNat)
                case measure => have := HNX.out.2.2.1; have := HNX.out.2.1.nn; omega
                case rel => exact ⟨hn2, mm2, _, rfl, rfl, ⟨HNX.out.1, HNX.out.2.1, by have := HNX.out.2.1.nn; omega, by have := HNX.out.2.2; have := HNX.out.2.1.nn; omega⟩, HS3.out.sub [0, 1, 4, 5, 6] rfl (by decide)⟩
              · go_wp2_with fail
                have HSb := Lib.hid (HS.out.new 55 [.int .u64 0, .int .u64 0, .bool false])
                have HF1 := Lib.hid ((Fr.refl F wr.drew).alloc (.cells #[.int .u64 0, .int .u64 0, .bool false] 55))
                have HFG := Lib.hid (mem_fp_fr HFF.out ((Fr.refl [] wr.drew).alloc (.cells #[.int .u64 0, .int .u64 0, .bool false] 55)))
                refine ⟨⟨⟨_, HF1.out⟩, rfl⟩, ?_⟩
                refine step_keep (N := 5) 7 (by kernel_rfl) rfl ?_
                go_wp2_with fail
                refine (HDO2.out _ _ 3 HSb.out rfl HFG.out).mono ?_
                rintro e w7 ⟨rfl, hS, hf⟩
                have HF := Lib.hid (HF1.out.trans hf); clear hf
                have HS := Lib.hid hS; clear hS
                go_wp2_with fail
                refine ⟨⟨⟨_, HF.out⟩, rfl⟩, ?_⟩
                refine step_pures (N := 2) [8, 9, 10] (by kernel_rfl) ?_
                simp only [theOps, nthOp, List.map_cons, List.map_nil, Array.getD_eq_getD_getElem?, List.getElem?_toArray, List.getElem?_cons_succ, List.getElem?_cons_zero, Option.getD_some]
                repeat (first | go_big_quiet_step (fail) | quiet_step (fail))
                refine wpQuiet_nil ?_
                refine step_hard (N := 1) 12 (by kernel_rfl) rfl ?_
                go_wp2_with (refine wpList_store_sep HS.out 0 rfl [.int .u64 t0, .int .u64 t1, .bool t2] 55 _ _ rfl rfl rfl rfl rfl (by kernel_rfl) honeT (fun wA hA _ => ?_); have HA := Lib.hid hA; clear hA)
                refine step_pures (N := 0) [13] (by kernel_rfl) ?_
                simp only [theOps, nthOp, List.map_cons, List.map_nil, Array.getD_eq_getD_getElem?, List.getElem?_toArray, List.getElem?_cons_succ, List.getElem?_cons_zero, Option.getD_some]
                repeat (first | go_big_quiet_step (fail) | quiet_step (fail))
                refine wpQuiet_nil ?_
                refine step_done (by kernel_rfl) ?_
                have HS := Lib.hid (show Sep w wA [blkT _ 55 [.int .u64 t0, .int .u64 t1, .bool t2], blkT X 43 (enP o), helpT c r1 r2 sq hb hh, memT mb mm2, blkT w2.heap.size 31 cs, blkT w.heap.size 24 cl] from HA.out)
                go_wp2_with (refine wpList_load_any 55 _ rfl rfl _ 0 rfl [.int .u64 t0, .int .u64 t1, .bool t2] _ (HS.out.blk 0 rfl).range Try.underlying55 rfl (by kernel_rfl) ?_)
                refine (HTL.out _ _ _ hb r1 hh t0 t1 t2 hva.1 hva.2 HK.out.2.1.inv.good HK.out.2.1.inv.rng (HS.out.pull 2 rfl)).mono ?_
                rintro e w8 ⟨rfl, hS⟩
                have HS := Lib.hid hS; clear hS
                have HS2 := Lib.hid (HS.out.new 43 (enP o))
                have honeO := enP_one o
                go_wp2_with (first | (refine wpList_load_any 43 _ rfl rfl _ 0 rfl (enP o) _ (HS.out.blk 2 rfl).range Try.underlying43 rfl (by kernel_rfl) ?_) | (refine wpList_store_new 43 _ (enP o).toArray rfl _ _ rfl rfl rfl (by kernel_rfl) (by simp [enP]) (all_oneCell_toArray honeO) ?_))
                generalize hh2 : H.tell c sq t0 t1 hh = hn2 at *
                clear hh2
                refine (HAK.out _ _ _ hb r1 hn2 HNX.out.2.1.inv.good (HS2.out.pull 1 rfl)).mono ?_
                rintro e w9 ⟨rfl, hf⟩
                rw [HAD.out r1 hn2 HNX.out.2.1.inv]
                have HS := Lib.hid (HS2.out.fr0 hf); clear hf HS2 honeO
                have honeO := enP_one (H.ask c r1 r2 sq hn2).1
                go_wp2_with (refine wpList_store_sep HS.out 0 rfl (enP (H.ask c r1 r2 sq hn2).1) 43 _ _ rfl rfl rfl rfl rfl (by kernel_rfl) honeO (fun wT hT _ => ?_); have HS3 := Lib.hid hT; clear hT)
                go_roundg ((H.ms L hn2).toNat)
                case measure => have := HNX.out.2.2.1; have := HNX.out.2.1.nn; omega
                case rel => exact ⟨hn2, mm2, _, rfl, rfl, ⟨HNX.out.1, HNX.out.2.1, by have := HNX.out.2.1.nn; omega, by have := HNX.out.2.2; have := HNX.out.2.1.nn; omega⟩, HS3.out.sub [0, 1, 4, 5, 6] rfl (by decide)⟩
theorem shelps_any (w : World) (c : Cfg) (hf0 : 0 ≤ c.fi) (who : Int) (a : Option Addr) (m lc : Nat) (L : List (Int × Int)) (hLm : m = L.length) (hL : ArgE enE 2 w (.slice a m lc) L) (hG : ∀ e ∈ L, goodE e) :
    Calls Try.prog 14 #[cfgV c, .int .i64 who, .slice a m lc] w fun e w' => e = .returned (.bool true) ∧ Fr [] w w' := by
  by_cases h0 : right c = true
  · exact shelps_good w c (by unfold right at h0; simpa using h0) hf0 who a m lc L hLm hL hG h0
  · exact shelps_s0 w c who a m lc (by simpa using h0)
theorem shelps_row (a b d f g l who : Int) (v : Value) (hg : (Lit.int .u64 g).wf = true) (L : List (Int × Int)) (w : World) (hL : ArgH w v L) (_ : L.length ≤ maxLen) :
    Calls Try.prog 14 #[.agg #[.int .i64 a, .int .i64 b, .int .i64 d, .int .i64 f, .int .u64 g, .int .u64 l], .int .i64 who, v] w fun e w' => e = .returned (.bool true) ∧ Fr [] w w' := by
  obtain ⟨a1, c1, rfl, _⟩ := id hL.1.1
  exact shelps_any w ⟨a, b, d, f, g, l⟩ (wf_u64 hg).1 who a1 _ c1 L rfl hL.1.1 hL.1.2
end Go.Proofs.Ytccioehckfdjdaa
