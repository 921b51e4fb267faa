/- Chapter 12: which entries may be, walked. -/
import Derived.Test.YtccioehckfdjdaaHpar2
import Derived.Test.YtccioehckfdjdaaYrefS
import Derived.Test.YtccioehckfdjdaaMap
import Derived.Test.YtccioehckfdjdaaArgO
import Derived.Deep.LoopGhost
set_option linter.unusedSimpArgs false
set_option linter.unusedVariables false
namespace Go.Tum.H
/-- How often a place stands in the first entries. -/
def cntF (L : List (Int × Int)) (k : Nat) (z : Int) : Int := ((L.take k).countP fun e => e.1 == z : Nat)
theorem cntF_le (L : List (Int × Int)) (k : Nat) (z : Int) : 0 ≤ cntF L k z ∧ cntF L k z ≤ k := by
  unfold cntF
  have h1 : (L.take k).countP (fun e => e.1 == z) ≤ (L.take k).length := List.countP_le_length
  have h2 : (L.take k).length ≤ k := by rw [List.length_take]; omega
  omega
theorem cntF_succ {L : List (Int × Int)} {k : Nat} (hk : k < L.length) (z : Int) : cntF L (k + 1) z = if z = L[k].1 then cntF L k z + 1 else cntF L k z := by
  unfold cntF
  rw [List.take_succ_eq_append_getElem hk, List.countP_append, List.countP_singleton]
  by_cases e : z = L[k].1
  · rw [if_pos e]; simp [e]
  · rw [if_neg e]; simp [Ne.symm e]
theorem cntF_no {L : List (Int × Int)} {k : Nat} {z : Int} (h : cntF L k z = 0) : ∀ j (hj : j < L.length), j < k → L[j].1 ≠ z := fun j hj hjk e => by
  unfold cntF at h
  have h0 : (L.take k).countP (fun e => e.1 == z) = 0 := by omega
  rw [List.countP_eq_zero] at h0
  have hm : L[j] ∈ L.take k := by
    rw [List.mem_take_iff_getElem]
    exact ⟨j, by omega, rfl⟩
  have := h0 _ hm
  simp [e] at this
/-- No two entries of one cell. -/
def Dist (L : List (Int × Int)) : Prop := ∀ i j (hi : i < L.length) (hj : j < L.length), j < i → L[j].1 ≠ L[i].1
end Go.Tum.H
namespace Go.Proofs.Ytccioehckfdjdaa
open Go.RowKit Go.Tum Go.Tum.Y Go.Tum.Sc
theorem zeroInt12 (w : World) : (zeroValue 3).run Try.prog w = .ok (.int .i64 0) w := by kernel_rfl
set_option maxRecDepth 100000 in
set_option maxHeartbeats 8000000 in
theorem right12_any (w : World) (c : Cfg) (h : Ok c) (a : Option Addr) (m lc : Nat) (L : List (Int × Int)) (hLm : L.length = m) (hL : ArgE enE 2 w (.slice a m lc) L) (hG : ∀ e ∈ L, goodE e) (hmx : m ≤ maxLen) :
    Calls Try.prog 69 #[cfgV c, .slice a m lc] w fun e w' => (∃ r : Bool, e = .returned (.bool r) ∧ (r = true → H.Right c L ∧ L.length ≤ 30 ∧ H.Dist L)) ∧ Fr [] w w' := by
  have HF7 := Lib.hid (fun w => rfrom_7 w c h)
  have HSZ := Lib.hid (fun w => rsize_any w c h)
  have HCP := Lib.hid (fun w => rcap_any w c h)
  have hcb := cap_bd h
  have hsb := size_bd h
  have hmi : (m : Int) ≤ 9223372036854775807 := by unfold maxLen at hmx; omega
  have hsz6 : (cfgL c).length = 6 := rfl
  rw [show cfgV c = .agg (cfgL c).toArray from rfl] at *
  have hS := (((Sep.nil (Fr.refl [] w)).new 24 (cfgL c)).mapNew Try.prog 3 3 .i64 .i64)
  simp only [World.size_alloc] at hS
  have HS := Lib.hid hS; clear hS
  have hmm := @run_makeMap Try.prog
  have hz0 : (fun _ : Int => (0 : Int)) = H.cntF L 0 := by funext z; simp [H.cntF]
  rw [hz0] at HS
  have HLM := Lib.hid hLm; clear hLm hz0
  generalize cfgL c = cl at *
  obtain ⟨ft, hft⟩ : ∃ x, x = fTag c := ⟨_, rfl⟩
  obtain ⟨sz, hsz⟩ : ∃ x, x = size c := ⟨_, rfl⟩
  obtain ⟨cp, hcp⟩ : ∃ x, x = cap c := ⟨_, rfl⟩
  rw [← hft] at HF7; rw [← hsz] at HSZ; rw [← hcp] at HCP
  rw [← hsz] at hsb; rw [← hcp] at hcb
  have HFT := Lib.hid hft; have HSS := Lib.hid hsz; have HCC := Lib.hid hcp; clear hft hsz hcp
  go_enter Try.func69, Try.ntmps69
  go_wp2_with fail
  go_loopg [11] m (fun g vi wr => ∃ k : Nat, g + k = m ∧ vi = .int .i64 (k : Int) ∧ (∀ i (hi : i < L.length), i < k → (ft ≤ L[i].1 ∧ L[i].1 < sz) ∧ ∀ j (hj : j < L.length), j < i → L[j].1 ≠ L[i].1) ∧ Sep w wr [mapT Try.prog 3 3 .i64 .i64 (w.heap.size + 1) k (H.cntF L k), blkT w.heap.size 24 cl])
  case atStart => exact ⟨0, by omega, rfl, fun i _ hi => by omega, HS.out.sub [0, 1] rfl (by decide)⟩
  case round =>
    clear HS
    obtain ⟨k, hgk, rfl, hgd, hS⟩ := hrel
    have HGD := Lib.hid hgd; clear hgd
    by_cases hk : k < m
    · have hki : (k : Int) < (m : Int) := by omega
      have hkL : k < L.length := by have := HLM.out; omega
      obtain ⟨x, rfl, hx, c0, c1⟩ := (hL.fr hS.fr).at hkL
      have e0 := c0 _ rfl
      have e1 := c1 0 _ rfl
      simp only [Nat.zero_add, Nat.reduceAdd] at e1
      have hge := hG _ (List.getElem_mem hkL)
      have hcs := fun z => H.cntF_succ hkL z
      have hle1 := H.cntF_le L k L[k].1
      have HNX := Lib.hid (show ∀ E, E = L[k].1 → H.cntF L k E = 0 → (ft ≤ E ∧ E < sz) → ∀ i (hi : i < L.length), i < k + 1 → (ft ≤ L[i].1 ∧ L[i].1 < sz) ∧ ∀ j (hj : j < L.length), j < i → L[j].1 ≠ L[i].1 from fun E hE h0 hr i hi hik => by
        by_cases e : i < k
        · exact HGD.out i hi e
        · obtain rfl : i = k := by omega
          subst hE
          exact ⟨hr, fun j hj hji => H.cntF_no h0 j hj hji⟩)
      obtain ⟨E, hEe⟩ : ∃ E, E = L[k] := ⟨_, rfl⟩
      rw [← hEe] at e0 e1 hge hcs hle1 HNX
      have HEE := Lib.hid hEe; clear hEe
      obtain ⟨E1, E2⟩ := E
      dsimp only at e0 e1 hge hcs hle1 HNX
      have hwf : (Lit.int .i64 E1).wf = true := WalkArith.wf_i64 ⟨hge.1, hge.2.1⟩
      have hE1 := hge.1
      have hE2 := hge.2.1
      have hwf1 : (Lit.int .i64 (H.cntF L k E1 + 1)).wf = true := WalkArith.wf_i64 (by omega)
      have hkm : k < maxLen := by omega
      have hzz : (fun z => if z = E1 then H.cntF L k E1 + 1 else H.cntF L k z) = H.cntF L (k + 1) := by
        funext z
        rw [hcs z]
        by_cases e : z = E1
        · rw [if_pos e, if_pos e, e]
        · rw [if_neg e, if_neg e]
      have hc1 : H.cntF L (k + 1) E1 = H.cntF L k E1 + 1 := by rw [← hzz]; exact if_pos rfl
      have HS := Lib.hid (hS.new 136 [.int .i64 E1, .int .u64 E2]); clear hS
      clear c0 c1 hcs hge
      have HZZ := Lib.hid hzz; clear hzz
      generalize hq : H.cntF L k E1 = q at *
      have HQ := Lib.hid hq; clear hq
      go_wp2_with (first
        | (at_lookup; go_must (refine wpList_lookup_sep HS.out 1 rfl (by rfl) _ _ 72 rfl Try.underlying3 Try.underlying72 Try.underlying3 zeroInt12 rfl E1 rfl hwf ?_; rw [HQ.out]))
        | (at_mapUpdate; go_must (refine wpList_update_sep HS.out 1 rfl rfl _ _ _ 72 rfl Try.underlying3 Try.underlying72 Try.underlying3 rfl E1 rfl hwf (q + 1) rfl hwf1 hkm ?_); intro wU hU fU; have HU := Lib.hid hU; clear hU fU))
      have hU : Sep w wU [blkT wr.heap.size 136 [.int .i64 E1, .int .u64 E2], mapT Try.prog 3 3 .i64 .i64 (w.heap.size + 1) (k + 1) (fun z => if z = E1 then q + 1 else H.cntF L k z), blkT w.heap.size 24 cl] := HU.out
      rw [HZZ.out] at hU
      have HS := Lib.hid hU; clear hU HU
      have p0 := (HS.out.blk 0 rfl).cell 0
      have pl := (HS.out.blk 0 rfl).lt
      simp only [List.getElem?_cons_zero] at p0
      have hmc := (HS.out.blk 2 rfl).drew
      by_cases hq1 : q = 0
      · have d1 : decide (q + 1 > 1) = false := by simp; omega
        by_cases hlo : ft ≤ E1
        · have d2 : decide (E1 < ft) = false := by simp; omega
          by_cases hhi : E1 < sz
          · have d3 : decide (E1 ≥ sz) = false := by simp; omega
            refine wp_region_fr [(1, [0, 1, 2]), (2, [3]), (1, [4, 5, 6, 7, 8]), (2, [9]), (1, [10, 11, 12, 13, 14, 15]), (2, [16]), (0, [17, 18])] [] (by kernel_rfl) (by kernel_rfl) ?_
            simp only [theOps, nthOp, List.map_cons, List.map_nil, Array.getD_eq_getD_getElem?, List.getElem?_toArray, List.getElem?_cons_succ, List.getElem?_cons_zero, Option.getD_some]
            repeat ((first | refine wpSegs_soft ?_ | refine wpSegs_pure ?_ | refine wpSegs_here ?_); (repeat (first | go_big_quiet_step (fail) | quiet_step (fail))); refine wpQuiet_nil ?_)
            refine wpSegs_keep ?_
            go_wp2_with (at_lookup; go_must (refine wpList_lookup_sep HS.out.drew 1 rfl (by rfl) _ _ 72 rfl Try.underlying3 Try.underlying72 Try.underlying3 zeroInt12 rfl E1 rfl hwf ?_))
            refine ⟨⟨⟨_, (by exact ⟨rfl, rfl, rfl, Nat.le_refl _, fun _ _ _ => rfl⟩)⟩, rfl⟩, ?_⟩
            refine wpSegs_soft ?_
            iterate 4 (first | go_big_quiet_step (fail) | quiet_step (fail))
            refine wpQuiet_load_mid 24 _ w.heap.size 0 cl _ rfl rfl rfl (rangeAt_after hmc (by simp)) Try.underlying24 rfl (by rw [hsz6]; kernel_rfl) ?_
            simp only [Act.put, List.setIfInBounds_toArray, List.set_cons_zero, List.set_cons_succ]
            refine wpQuiet_nil ?_
            refine wpSegs_keep ?_
            go_wp2_with fail
            refine (HF7.out _).mono ?_
            rintro e wF ⟨rfl, hf⟩
            have HF := Lib.hid (hf); clear hf
            go_wp2_with fail
            refine ⟨⟨⟨_, (by exact HF.out)⟩, rfl⟩, ?_⟩
            refine wpSegs_soft ?_
            iterate 5 (first | go_big_quiet_step (fail) | quiet_step (fail))
            refine wpQuiet_load_mid 24 _ w.heap.size 0 cl _ rfl rfl rfl (rangeAt_after hmc (by simp)) Try.underlying24 rfl (by rw [hsz6]; kernel_rfl) ?_
            simp only [Act.put, List.setIfInBounds_toArray, List.set_cons_zero, List.set_cons_succ]
            refine wpQuiet_nil ?_
            refine wpSegs_keep ?_
            go_wp2_with fail
            refine (HSZ.out _).mono ?_
            rintro e wF ⟨rfl, hf⟩
            have HF := Lib.hid (HF.out.trans hf); clear hf
            go_wp2_with fail
            refine ⟨⟨⟨_, (by exact HF.out)⟩, rfl⟩, ?_⟩
            repeat ((first | refine wpSegs_soft ?_ | refine wpSegs_pure ?_ | refine wpSegs_here ?_); (repeat (first | go_big_quiet_step (fail) | quiet_step (fail))); refine wpQuiet_nil ?_)
            refine wpSegs_done ?_
            go_wp2_with fail
            have HS := Lib.hid (HS.out.drew.fr0 HF.out)
            have HGD := Lib.hid (HNX.out E1 rfl (HQ.out.trans hq1) ⟨by omega, by omega⟩)
            go_roundg (m - (k + 1))
            case measure => omega
            case rel => exact ⟨k + 1, by omega, by go_num, HGD.out, HS.out.sub [1, 2] rfl (by decide)⟩
          · have d3 : decide (E1 ≥ sz) = true := by simp; omega
            refine wp_region_fr [(1, [0, 1, 2]), (2, [3]), (1, [4, 5, 6, 7, 8]), (2, [9]), (1, [10, 11, 12, 13, 14, 15]), (2, [16]), (0, [17, 18])] [] (by kernel_rfl) (by kernel_rfl) ?_
            simp only [theOps, nthOp, List.map_cons, List.map_nil, Array.getD_eq_getD_getElem?, List.getElem?_toArray, List.getElem?_cons_succ, List.getElem?_cons_zero, Option.getD_some]
            repeat ((first | refine wpSegs_soft ?_ | refine wpSegs_pure ?_ | refine wpSegs_here ?_); (repeat (first | go_big_quiet_step (fail) | quiet_step (fail))); refine wpQuiet_nil ?_)
            refine wpSegs_keep ?_
            go_wp2_with (at_lookup; go_must (refine wpList_lookup_sep HS.out.drew 1 rfl (by rfl) _ _ 72 rfl Try.underlying3 Try.underlying72 Try.underlying3 zeroInt12 rfl E1 rfl hwf ?_))
            refine ⟨⟨⟨_, (by exact ⟨rfl, rfl, rfl, Nat.le_refl _, fun _ _ _ => rfl⟩)⟩, rfl⟩, ?_⟩
            refine wpSegs_soft ?_
            iterate 4 (first | go_big_quiet_step (fail) | quiet_step (fail))
            refine wpQuiet_load_mid 24 _ w.heap.size 0 cl _ rfl rfl rfl (rangeAt_after hmc (by simp)) Try.underlying24 rfl (by rw [hsz6]; kernel_rfl) ?_
            simp only [Act.put, List.setIfInBounds_toArray, List.set_cons_zero, List.set_cons_succ]
            refine wpQuiet_nil ?_
            refine wpSegs_keep ?_
            go_wp2_with fail
            refine (HF7.out _).mono ?_
            rintro e wF ⟨rfl, hf⟩
            have HF := Lib.hid (hf); clear hf
            go_wp2_with fail
            refine ⟨⟨⟨_, (by exact HF.out)⟩, rfl⟩, ?_⟩
            refine wpSegs_soft ?_
            iterate 5 (first | go_big_quiet_step (fail) | quiet_step (fail))
            refine wpQuiet_load_mid 24 _ w.heap.size 0 cl _ rfl rfl rfl (rangeAt_after hmc (by simp)) Try.underlying24 rfl (by rw [hsz6]; kernel_rfl) ?_
            simp only [Act.put, List.setIfInBounds_toArray, List.set_cons_zero, List.set_cons_succ]
            refine wpQuiet_nil ?_
            refine wpSegs_keep ?_
            go_wp2_with fail
            refine (HSZ.out _).mono ?_
            rintro e wF ⟨rfl, hf⟩
            have HF := Lib.hid (HF.out.trans hf); clear hf
            go_wp2_with fail
            refine ⟨⟨⟨_, (by exact HF.out)⟩, rfl⟩, ?_⟩
            repeat ((first | refine wpSegs_soft ?_ | refine wpSegs_pure ?_ | refine wpSegs_here ?_); (repeat (first | go_big_quiet_step (fail) | quiet_step (fail))); refine wpQuiet_nil ?_)
            refine wpSegs_done ?_
            go_wp2_with fail
            go_ret
            exact ⟨⟨false, rfl, by simp⟩, (HS.out.drew.fr0 HF.out).fr⟩
        · have d2 : decide (E1 < ft) = true := by simp; omega
          refine wp_region_fr [(1, [0, 1, 2]), (2, [3]), (1, [4, 5, 6, 7, 8]), (2, [9]), (1, [10, 11, 12, 13, 14, 15]), (2, [16]), (0, [17, 18])] [] (by kernel_rfl) (by kernel_rfl) ?_
          simp only [theOps, nthOp, List.map_cons, List.map_nil, Array.getD_eq_getD_getElem?, List.getElem?_toArray, List.getElem?_cons_succ, List.getElem?_cons_zero, Option.getD_some]
          repeat ((first | refine wpSegs_soft ?_ | refine wpSegs_pure ?_ | refine wpSegs_here ?_); (repeat (first | go_big_quiet_step (fail) | quiet_step (fail))); refine wpQuiet_nil ?_)
          refine wpSegs_keep ?_
          go_wp2_with (at_lookup; go_must (refine wpList_lookup_sep HS.out.drew 1 rfl (by rfl) _ _ 72 rfl Try.underlying3 Try.underlying72 Try.underlying3 zeroInt12 rfl E1 rfl hwf ?_))
          refine ⟨⟨⟨_, (by exact ⟨rfl, rfl, rfl, Nat.le_refl _, fun _ _ _ => rfl⟩)⟩, rfl⟩, ?_⟩
          refine wpSegs_soft ?_
          iterate 4 (first | go_big_quiet_step (fail) | quiet_step (fail))
          refine wpQuiet_load_mid 24 _ w.heap.size 0 cl _ rfl rfl rfl (rangeAt_after hmc (by simp)) Try.underlying24 rfl (by rw [hsz6]; kernel_rfl) ?_
          simp only [Act.put, List.setIfInBounds_toArray, List.set_cons_zero, List.set_cons_succ]
          refine wpQuiet_nil ?_
          refine wpSegs_keep ?_
          go_wp2_with fail
          refine (HF7.out _).mono ?_
          rintro e wF ⟨rfl, hf⟩
          have HF := Lib.hid (hf); clear hf
          go_wp2_with fail
          refine ⟨⟨⟨_, (by exact HF.out)⟩, rfl⟩, ?_⟩
          repeat ((first | refine wpSegs_soft ?_ | refine wpSegs_pure ?_ | refine wpSegs_here ?_); (repeat (first | go_big_quiet_step (fail) | quiet_step (fail))); refine wpQuiet_nil ?_)
          refine wpSegs_keep ?_
          go_wp2_with fail
          refine ⟨⟨⟨_, (by exact HF.out)⟩, rfl⟩, ?_⟩
          repeat ((first | refine wpSegs_soft ?_ | refine wpSegs_pure ?_ | refine wpSegs_here ?_); (repeat (first | go_big_quiet_step (fail) | quiet_step (fail))); refine wpQuiet_nil ?_)
          refine wpSegs_done ?_
          go_wp2_with fail
          go_ret
          exact ⟨⟨false, rfl, by simp⟩, (HS.out.drew.fr0 HF.out).fr⟩
      · have d1 : decide (q + 1 > 1) = true := by simp; omega
        refine wp_region_fr [(1, [0, 1, 2]), (2, [3]), (1, [4, 5, 6, 7, 8]), (2, [9]), (1, [10, 11, 12, 13, 14, 15]), (2, [16]), (0, [17, 18])] [] (by kernel_rfl) (by kernel_rfl) ?_
        simp only [theOps, nthOp, List.map_cons, List.map_nil, Array.getD_eq_getD_getElem?, List.getElem?_toArray, List.getElem?_cons_succ, List.getElem?_cons_zero, Option.getD_some]
        repeat ((first | refine wpSegs_soft ?_ | refine wpSegs_pure ?_ | refine wpSegs_here ?_); (repeat (first | go_big_quiet_step (fail) | quiet_step (fail))); refine wpQuiet_nil ?_)
        refine wpSegs_keep ?_
        go_wp2_with (at_lookup; go_must (refine wpList_lookup_sep HS.out.drew 1 rfl (by rfl) _ _ 72 rfl Try.underlying3 Try.underlying72 Try.underlying3 zeroInt12 rfl E1 rfl hwf ?_))
        refine ⟨⟨⟨_, (by exact ⟨rfl, rfl, rfl, Nat.le_refl _, fun _ _ _ => rfl⟩)⟩, rfl⟩, ?_⟩
        repeat ((first | refine wpSegs_soft ?_ | refine wpSegs_pure ?_ | refine wpSegs_here ?_); (repeat (first | go_big_quiet_step (fail) | quiet_step (fail))); refine wpQuiet_nil ?_)
        refine wpSegs_keep ?_
        go_wp2_with fail
        refine ⟨⟨⟨_, (by exact ⟨rfl, rfl, rfl, Nat.le_refl _, fun _ _ _ => rfl⟩)⟩, rfl⟩, ?_⟩
        repeat ((first | refine wpSegs_soft ?_ | refine wpSegs_pure ?_ | refine wpSegs_here ?_); (repeat (first | go_big_quiet_step (fail) | quiet_step (fail))); refine wpQuiet_nil ?_)
        refine wpSegs_keep ?_
        go_wp2_with fail
        refine ⟨⟨⟨_, (by exact ⟨rfl, rfl, rfl, Nat.le_refl _, fun _ _ _ => rfl⟩)⟩, rfl⟩, ?_⟩
        repeat ((first | refine wpSegs_soft ?_ | refine wpSegs_pure ?_ | refine wpSegs_here ?_); (repeat (first | go_big_quiet_step (fail) | quiet_step (fail))); refine wpQuiet_nil ?_)
        refine wpSegs_done ?_
        go_wp2_with fail
        go_ret
        exact ⟨⟨false, rfl, by simp⟩, HS.out.drew.fr⟩
    · obtain rfl : k = m := by omega
      have HS := Lib.hid hS; clear hS
      have hmc := (HS.out.blk 1 rfl).drew
      by_cases h30 : k ≤ 30
      · have d1 : decide ((k : Int) ≤ 30) = true := by simp; omega
        go_wp2_with (refine wpList_load_any 24 _ rfl rfl _ 0 rfl cl _ (HS.out.blk 1 rfl).range Try.underlying24 rfl (by rw [hsz6]; kernel_rfl) ?_)
        refine (HCP.out _).mono ?_
        rintro e wF ⟨rfl, hf⟩
        have HF := Lib.hid hf; clear hf
        by_cases hcp2 : (k : Int) ≤ cp
        · have d2 : decide ((k : Int) ≤ cp) = true := by simpa using hcp2
          go_wp2_with fail
          go_ret
          have hlm := HLM.out
          refine ⟨⟨true, rfl, fun _ => ⟨⟨by rw [← HCC.out]; omega, fun e he => ?_⟩, by omega, fun i j hi hj hji => (HGD.out i hi (by omega)).2 j hj hji⟩⟩, (HS.out.fr0 HF.out).fr⟩
          obtain ⟨i, hi, rfl⟩ := List.getElem_of_mem he
          have := (HGD.out i hi (by omega)).1
          have hge := hG _ (List.getElem_mem hi)
          rw [← HFT.out, ← HSS.out]
          exact ⟨this.1, this.2, hge.2.2⟩
        · have d2 : decide ((k : Int) ≤ cp) = false := by simp; omega
          go_wp2_with fail
          go_ret
          exact ⟨⟨false, rfl, by simp⟩, (HS.out.fr0 HF.out).fr⟩
      · have d1 : decide ((k : Int) ≤ 30) = false := by simp; omega
        go_wp2_with fail
        go_ret
        exact ⟨⟨false, rfl, by simp⟩, HS.out.fr⟩
end Go.Proofs.Ytccioehckfdjdaa
