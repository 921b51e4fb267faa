/- Chapter 12: which entries may be, walked. -/
import Derived.Test.YtccioehckfdjdaaHpar
import Derived.Test.YtccioehckfdjdaaYrefS
import Derived.Test.YtccioehckfdjdaaMap
import Derived.Test.YtccioehckfdjdaaArgO
import Derived.Deep.LoopGhost
set_option linter.unusedSimpArgs false
set_option linter.unusedVariables false
namespace Go.Tum.H
/-- How often a place stands in the first entries. -/
def cntF (L : List (Int × Int)) (k : Nat) (z : Int) : Int := ((L.take k).countP fun e => e.1 == z : Nat)
theorem cntF_le (L : List (Int × Int)) (k : Nat) (z : Int) : 0 ≤ cntF L k z ∧ cntF L k z ≤ k := by
  unfold cntF
  have h1 : (L.take k).countP (fun e => e.1 == z) ≤ (L.take k).length := List.countP_le_length
  have h2 : (L.take k).length ≤ k := by rw [List.length_take]; omega
  omega
theorem cntF_succ {L : List (Int × Int)} {k : Nat} (hk : k < L.length) (z : Int) : cntF L (k + 1) z = if z = L[k].1 then cntF L k z + 1 else cntF L k z := by
  unfold cntF
  rw [List.take_succ_eq_append_getElem hk, List.countP_append, List.countP_singleton]
  by_cases e : z = L[k].1
  · rw [if_pos e]; simp [e]
  · rw [if_neg e]; simp [Ne.symm e]
theorem cntF_no {L : List (Int × Int)} {k : Nat} {z : Int} (h : cntF L k z = 0) : ∀ j (hj : j < L.length), j < k → L[j].1 ≠ z := fun j hj hjk e => by
  unfold cntF at h
  have h0 : (L.take k).countP (fun e => e.1 == z) = 0 := by omega
  rw [List.countP_eq_zero] at h0
  have hm : L[j] ∈ L.take k := by
    rw [List.mem_take_iff_getElem]
    exact ⟨j, by omega, rfl⟩
  have := h0 _ hm
  simp [e] at this
/-- No two entries of one cell. -/
def Dist (L : List (Int × Int)) : Prop := ∀ i j (hi : i < L.length) (hj : j < L.length), j < i → L[j].1 ≠ L[i].1
end Go.Tum.H
namespace Go.Proofs.Ytccioehckfdjdaa
open Go.RowKit Go.Tum Go.Tum.Y Go.Tum.Sc
theorem zeroInt12 (w : World) : (zeroValue 3).run Try.prog w = .ok (.int .i64 0) w := by kernel_rfl
set_option maxRecDepth 100000 in
set_option maxHeartbeats 8000000 in
theorem right12_any (w : World) (c : Cfg) (h : Ok c) (a : Option Addr) (m lc : Nat) (L : List (Int × Int)) (hLm : L.length = m) (hL : ArgE enE 2 w (.slice a m lc) L) (hG : ∀ e ∈ L, goodE e) (hmx : m ≤ maxLen) :
    Calls Try.prog 69 #[cfgV c, .slice a m lc] w fun e w' => (∃ r : Bool, e = .returned (.bool r) ∧ (r = true → H.Right c L ∧ L.length ≤ 30 ∧ H.Dist L)) ∧ Fr [] w w' := by
  have HF7 := Lib.hid (fun w => rfrom_7 w c h)
  have HSZ := Lib.hid (fun w => rsize_any w c h)
  have HCP := Lib.hid (fun w => rcap_any w c h)
  have hcb := cap_bd h
  have hsb := size_bd h
  have hmi : (m : Int) ≤ 9223372036854775807 := by unfold maxLen at hmx; omega
  have hsz6 : (cfgL c).length = 6 := rfl
  rw [show cfgV c = .agg (cfgL c).toArray from rfl] at *
  have hS := (((Sep.nil (Fr.refl [] w)).new 24 (cfgL c)).mapNew Try.prog 3 3 .i64 .i64)
  simp only [World.size_alloc] at hS
  have HS := Lib.hid hS; clear hS
  have hmm := @run_makeMap Try.prog
  have hz0 : (fun _ : Int => (0 : Int)) = H.cntF L 0 := by funext z; simp [H.cntF]
  rw [hz0] at HS
  have HLM := Lib.hid hLm; clear hLm hz0
  generalize cfgL c = cl at *
  obtain ⟨ft, hft⟩ : ∃ x, x = fTag c := ⟨_, rfl⟩
  obtain ⟨sz, hsz⟩ : ∃ x, x = size c := ⟨_, rfl⟩
  obtain ⟨cp, hcp⟩ : ∃ x, x = cap c := ⟨_, rfl⟩
  rw [← hft] at HF7; rw [← hsz] at HSZ; rw [← hcp] at HCP
  rw [← hsz] at hsb; rw [← hcp] at hcb
  have HFT := Lib.hid hft; have HSS := Lib.hid hsz; have HCC := Lib.hid hcp; clear hft hsz hcp
  go_enter Try.func69, Try.ntmps69
  go_wp2_with fail
  go_loopg [11] m (fun g vi wr => ∃ k : Nat, g + k = m ∧ vi = .int .i64 (k : Int) ∧ (∀ i (hi : i < L.length), i < k → (ft ≤ L[i].1 ∧ L[i].1 < sz) ∧ ∀ j (hj : j < L.length), j < i → L[j].1 ≠ L[i].1) ∧ Sep w wr [mapT Try.prog 3 3 .i64 .i64 (w.heap.size + 1) k (H.cntF L k), blkT w.heap.size 24 cl])
  case atStart => exact ⟨0, by omega, rfl, fun i _ hi => by omega, HS.out.sub [0, 1] rfl (by decide)⟩
  case round =>
    clear HS
    obtain ⟨k, hgk, rfl, hgd, hS⟩ := hrel
    have HGD := Lib.hid hgd; clear hgd
    by_cases hk : k < m
    · have hki : (k : Int) < (m : Int) := by omega
      have hkL : k < L.length := by have := HLM.out; omega
      obtain ⟨x, rfl, hx, c0, c1⟩ := (hL.fr hS.fr).at hkL
      have e0 := c0 _ rfl
      have e1 := c1 0 _ rfl
      simp only [Nat.zero_add, Nat.reduceAdd] at e1
      have hge := hG _ (List.getElem_mem hkL)
      have hcs := fun z => H.cntF_succ hkL z
      have hle1 := H.cntF_le L k L[k].1
      have HNX := Lib.hid (show ∀ E, E = L[k].1 → H.cntF L k E = 0 → (ft ≤ E ∧ E < sz) → ∀ i (hi : i < L.length), i < k + 1 → (ft ≤ L[i].1 ∧ L[i].1 < sz) ∧ ∀ j (hj : j < L.length), j < i → L[j].1 ≠ L[i].1 from fun E hE h0 hr i hi hik => by
        by_cases e : i < k
        · exact HGD.out i hi e
        · obtain rfl : i = k := by omega
          subst hE
          exact ⟨hr, fun j hj hji => H.cntF_no h0 j hj hji⟩)
      obtain ⟨E, hEe⟩ : ∃ E, E = L[k] := ⟨_, rfl⟩
      rw [← hEe] at e0 e1 hge hcs hle1 HNX
      have HEE := Lib.hid hEe; clear hEe
      obtain ⟨E1, E2⟩ := E
      dsimp only at e0 e1 hge hcs hle1 HNX
      have hwf : (Lit.int .i64 E1).wf = true := WalkArith.wf_i64 ⟨hge.1, hge.2.1⟩
      have hE1 := hge.1
      have hE2 := hge.2.1
      have hwf1 : (Lit.int .i64 (H.cntF L k E1 + 1)).wf = true := WalkArith.wf_i64 (by omega)
      have hkm : k < maxLen := by omega
      have hzz : (fun z => if z = E1 then H.cntF L k E1 + 1 else H.cntF L k z) = H.cntF L (k + 1) := by
        funext z
        rw [hcs z]
        by_cases e : z = E1
        · rw [if_pos e, if_pos e, e]
        · rw [if_neg e, if_neg e]
      have hc1 : H.cntF L (k + 1) E1 = H.cntF L k E1 + 1 := by rw [← hzz]; exact if_pos rfl
      have HS := Lib.hid (hS.new 136 [.int .i64 E1, .int .u64 E2]); clear hS
      clear c0 c1 hcs hge
      have HZZ := Lib.hid hzz; clear hzz
      generalize hq : H.cntF L k E1 = q at *
      have HQ := Lib.hid hq; clear hq
      go_wp2_with (first
        | (at_lookup; go_must (refine wpList_lookup_sep HS.out 1 rfl (by rfl) _ _ 72 rfl Try.underlying3 Try.underlying72 Try.underlying3 zeroInt12 rfl E1 rfl hwf ?_; rw [HQ.out]))
        | (at_mapUpdate; go_must (refine wpList_update_sep HS.out 1 rfl rfl _ _ _ 72 rfl Try.underlying3 Try.underlying72 Try.underlying3 rfl E1 rfl hwf (q + 1) rfl hwf1 hkm ?_); intro wU hU fU; have HU := Lib.hid hU; clear hU fU))
      have hU : Sep w wU [blkT wr.heap.size 136 [.int .i64 E1, .int .u64 E2], mapT Try.prog 3 3 .i64 .i64 (w.heap.size + 1) (k + 1) (fun z => if z = E1 then q + 1 else H.cntF L k z), blkT w.heap.size 24 cl] := HU.out
      rw [HZZ.out] at hU
      have HS := Lib.hid hU; clear hU HU
      have p0 := (HS.out.blk 0 rfl).cell 0
      have pl := (HS.out.blk 0 rfl).lt
      simp only [List.getElem?_cons_zero] at p0
      have hmc := (HS.out.blk 2 rfl).drew
      by_cases hq1 : q = 0
      · have d1 : decide (q + 1 > 1) = false := by simp; omega
        by_cases hlo : ft ≤ E1
        · have d2 : decide (E1 < ft) = false := by simp; omega
          by_cases hhi : E1 < sz
          · have d3 : decide (E1 ≥ sz) = false := by simp; omega
            refine wp_region_fr [(1, [0, 1, 2]), (2, [3]), (1, [4, 5, 6, 7, 8]), (2, [9]), (1, [10, 11, 12, 13, 14, 15]), (2, [16]), (0, [17, 18])] [] (by kernel_rfl) (by kernel_rfl) ?_
            simp only [theOps, nthOp, List.map_cons, List.map_nil, Array.getD_eq_getD_getElem?, List.getElem?_toArray, List.getElem?_cons_succ, List.getElem?_cons_zero, Option.getD_some]
            repeat ((first | refine wpSegs_soft ?_ | refine wpSegs_pure ?_ | refine wpSegs_here ?_); (repeat (first | go_big_quiet_step (fail) | quiet_step (fail))); refine wpQuiet_nil ?_)
            refine wpSegs_keep ?_
            go_wp2_with (at_lookup; go_must (refine wpList_lookup_sep HS.out.drew 1 rfl (by rfl) _ _ 72 rfl Try.underlying3 Try.underlying72 Try.underlying3 zeroInt12 rfl E1 rfl hwf ?_))
            refine ⟨⟨⟨_, (by exact ⟨rfl, rfl, rfl, Nat.le_refl _, fun _ _ _ => rfl⟩)⟩, rfl⟩, ?_⟩
            refine wpSegs_soft ?_
            iterate 4 (first | go_big_quiet_step (fail) | quiet_step (fail))
            refine wpQuiet_load_mid 24 _ w.heap.size 0 cl _ rfl rfl rfl (rangeAt_after hmc (by simp)) Try.underlying24 rfl (by rw [hsz6]; kernel_rfl) ?_
            simp only [Act.put, List.setIfInBounds_toArray, List.set_cons_zero, List.set_cons_succ]
            refine wpQuiet_nil ?_
            refine wpSegs_keep ?_
            go_wp2_with fail
            refine (HF7.out _).mono ?_
            rintro e wF ⟨rfl, hf⟩
            have HF := Lib.hid (hf); clear hf
            go_wp2_with fail
            refine ⟨⟨⟨_, (by exact HF.out)⟩, rfl⟩, ?_⟩
            refine wpSegs_soft ?_
            iterate 5 (first | go_big_quiet_step (fail) | quiet_step (fail))
            refine wpQuiet_load_mid 24 _ w.heap.size 0 cl _ rfl rfl rfl (rangeAt_after hmc (by simp)) Try.underlying24 rfl (by rw [hsz6]; kernel_rfl) ?_
            simp only [Act.put, List.setIfInBounds_toArray, List.set_cons_zero, List.set_cons_succ]
            refine wpQuiet_nil ?_
            refine wpSegs_keep ?_
            go_wp2_with fail
            refine (HSZ.out _).mono ?_
            rintro e wF ⟨rfl, hf⟩
            have HF := Lib.hid (HF.out.trans hf); clear hf
            go_wp2_with fail
            refine ⟨⟨⟨_, (by exact HF.out)⟩, rfl⟩, ?_⟩
            repeat ((first | refine wpSegs_soft ?_ | refine wpSegs_pure ?_ | refine wpSegs_here ?_); (repeat (first | go_big_quiet_step (fail) | quiet_step (fail))); refine wpQuiet_nil ?_)
            refine wpSegs_done ?_
            go_wp2_with fail
            have HS := Lib.hid (HS.out.drew.fr0 HF.out)
            have HGD := Lib.hid (HNX.out E1 rfl (HQ.out.trans hq1) ⟨by omega, by omega⟩)
            go_roundg (m - (k + 1))
            case measure => omega
            case rel => exact ⟨k + 1, by omega, by go_num, HGD.out, HS.out.sub [1, 2] rfl (by decide)⟩
          · have d3 : decide (E1 ≥ sz) = true := by simp; omega
            refine wp_region_fr [(1, [0, 1, 2]), (2, [3]), (1, [4, 5, 6, 7, 8]), (2, [9]), (1, [10, 11, 12, 13, 14, 15]), (2, [16]), (0, [17, 18])] [] (by kernel_rfl) (by kernel_rfl) ?_
            simp only [theOps, nthOp, List.map_cons, List.map_nil, Array.getD_eq_getD_getElem?, List.getElem?_toArray, List.getElem?_cons_succ, List.getElem?_cons_zero, Option.getD_some]
            repeat ((first | refine wpSegs_soft ?_ | refine wpSegs_pure ?_ | refine wpSegs_here ?_); (repeat (first | go_big_quiet_step (fail) | quiet_step (fail))); refine wpQuiet_nil ?_)
            refine wpSegs_keep ?_
            go_wp2_with (at_lookup; go_must (refine wpList_lookup_sep HS.out.drew 1 rfl (by rfl) _ _ 72 rfl Try.underlying3 Try.underlying72 Try.underlying3 zeroInt12 rfl E1 rfl hwf ?_))
            refine ⟨⟨⟨_, (by exact ⟨rfl, rfl, rfl, Nat.le_refl _, fun _ _ _ => rfl⟩)⟩, rfl⟩, ?_⟩
            refine wpSegs_soft ?_
            iterate 4 (first | go_big_quiet_step (fail) | quiet_step (fail))
            refine wpQuiet_load_mid 24 _ w.heap.size 0 cl _ rfl rfl rfl (rangeAt_after hmc (by simp)) Try.underlying24 rfl (by rw [hsz6]; kernel_rfl) ?_
            simp only [Act.put, List.setIfInBounds_toArray, List.set_cons_zero, List.set_cons_succ]
            refine wpQuiet_nil ?_
            refine wpSegs_keep ?_
            go_wp2_with fail
            refine (HF7.out _).mono ?_
            rintro e wF ⟨rfl, hf⟩
            have HF := Lib.hid (hf); clear hf
            go_wp2_with fail
            refine ⟨⟨⟨_, (by exact HF.out)⟩, rfl⟩, ?_⟩
            refine wpSegs_soft ?_
            iterate 5 (first | go_big_quiet_step (fail) | quiet_step (fail))
            refine wpQuiet_load_mid 24 _ w.heap.size 0 cl _ rfl rfl rfl (rangeAt_after hmc (by simp)) Try.underlying24 rfl (by rw [hsz6]; kernel_rfl) ?_
            simp only [Act.put, List.setIfInBounds_toArray, List.set_cons_zero, List.set_cons_succ]
            refine wpQuiet_nil ?_
            refine wpSegs_keep ?_
            go_wp2_with fail
            refine (HSZ.out _).mono ?_
            rintro e wF ⟨rfl, hf⟩
            have HF := Lib.hid (HF.out.trans hf); clear hf
            go_wp2_with fail
            refine ⟨⟨⟨_, (by exact HF.out)⟩, rfl⟩, ?_⟩
            repeat ((first | refine wpSegs_soft ?_ | refine wpSegs_pure ?_ | refine wpSegs_here ?_); (repeat (first | go_big_quiet_step (fail) | quiet_step (fail))); refine wpQuiet_nil ?_)
            refine wpSegs_done ?_
            go_wp2_with fail
            go_ret
            exact ⟨⟨false, rfl, by simp⟩, (HS.out.drew.fr0 HF.out).fr⟩
        · have d2 : decide (E1 < ft) = true := by simp; omega
          refine wp_region_fr [(1, [0, 1, 2]), (2, [3]), (1, [4, 5, 6, 7, 8]), (2, [9]), (1, [10, 11, 12, 13, 14, 15]), (2, [16]), (0, [17, 18])] [] (by kernel_rfl) (by kernel_rfl) ?_
          simp only [theOps, nthOp, List.map_cons, List.map_nil, Array.getD_eq_getD_getElem?, List.getElem?_toArray, List.getElem?_cons_succ, List.getElem?_cons_zero, Option.getD_some]
          repeat ((first | refine wpSegs_soft ?_ | refine wpSegs_pure ?_ | refine wpSegs_here ?_); (repeat (first | go_big_quiet_step (fail) | quiet_step (fail))); refine wpQuiet_nil ?_)
          refine wpSegs_keep ?_
          go_wp2_with (at_lookup; go_must (refine wpList_lookup_sep HS.out.drew 1 rfl (by rfl) _ _ 72 rfl Try.underlying3 Try.underlying72 Try.underlying3 zeroInt12 rfl E1 rfl hwf ?_))
          refine ⟨⟨⟨_, (by exact ⟨rfl, rfl, rfl, Nat.le_refl _, fun _ _ _ => rfl⟩)⟩, rfl⟩, ?_⟩
          refine wpSegs_soft ?_
          iterate 4 (first | go_big_quiet_step (fail) | quiet_step (fail))
          refine wpQuiet_load_mid 24 _ w.heap.size 0 cl _ rfl rfl rfl (rangeAt_after hmc (by simp)) Try.underlying24 rfl (by rw [hsz6]; kernel_rfl) ?_
          simp only [Act.put, List.setIfInBounds_toArray, List.set_cons_zero, List.set_cons_succ]
          refine wpQuiet_nil ?_
          refine wpSegs_keep ?_
          go_wp2_with fail
          refine (HF7.out _).mono ?_
          rintro e wF ⟨rfl, hf⟩
          have HF := Lib.hid (hf); clear hf
          go_wp2_with fail
          refine ⟨⟨⟨_, (by exact HF.out)⟩, rfl⟩, ?_⟩
          repeat ((first | refine wpSegs_soft ?_ | refine wpSegs_pure ?_ | refine wpSegs_here ?_); (repeat (first | go_big_quiet_step (fail) | quiet_step (fail))); refine wpQuiet_nil ?_)
          refine wpSegs_keep ?_
          go_wp2_with fail
          refine ⟨⟨⟨_, (by exact HF.out)⟩, rfl⟩, ?_⟩
          repeat ((first | refine wpSegs_soft ?_ | refine wpSegs_pure ?_ | refine wpSegs_here ?_); (repeat (first | go_big_quiet_step (fail) | quiet_step (fail))); refine wpQuiet_nil ?_)
          refine wpSegs_done ?_
          go_wp2_with fail
          go_ret
          exact ⟨⟨false, rfl, by simp⟩, (HS.out.drew.fr0 HF.out).fr⟩
      · have d1 : decide (q + 1 > 1) = true := by simp; omega
        refine wp_region_fr [(1, [0, 1, 2]), (2, [3]), (1, [4, 5, 6, 7, 8]), (2, [9]), (1, [10, 11, 12, 13, 14, 15]), (2, [16]), (0, [17, 18])] [] (by kernel_rfl) (by kernel_rfl) ?_
        simp only [theOps, nthOp, List.map_cons, List.map_nil, Array.getD_eq_getD_getElem?, List.getElem?_toArray, List.getElem?_cons_succ, List.getElem?_cons_zero, Option.getD_some]
        repeat ((first | refine wpSegs_soft ?_ | refine wpSegs_pure ?_ | refine wpSegs_here ?_); (repeat (first | go_big_quiet_step (fail) | quiet_step (fail))); refine wpQuiet_nil ?_)
        refine wpSegs_keep ?_
        go_wp2_with (at_lookup; go_must (refine wpList_lookup_sep HS.out.drew 1 rfl (by rfl) _ _ 72 rfl Try.underlying3 Try.underlying72 Try.underlying3 zeroInt12 rfl E1 rfl hwf ?_))
        refine ⟨⟨⟨_, (by exact ⟨rfl, rfl, rfl, Nat.le_refl _, fun _ _ _ => rfl⟩)⟩, rfl⟩, ?_⟩
        repeat ((first | refine wpSegs_soft ?_ | refine wpSegs_pure ?_ | refine wpSegs_here ?_); (repeat (first | go_big_quiet_step (fail) | quiet_step (fail))); refine wpQuiet_nil ?_)
        refine wpSegs_keep ?_
        go_wp2_with fail
        refine ⟨⟨⟨_, (by exact ⟨rfl, rfl, rfl, Nat.le_refl _, fun _ _ _ => rfl⟩)⟩, rfl⟩, ?_⟩
        repeat ((first | refine wpSegs_soft ?_ | refine wpSegs_pure ?_ | refine wpSegs_here ?_); (repeat (first | go_big_quiet_step (fail) | quiet_step (fail))); refine wpQuiet_nil ?_)
        refine wpSegs_keep ?_
        go_wp2_with fail
        refine ⟨⟨⟨_, (by exact ⟨rfl, rfl, rfl, Nat.le_refl _, fun _ _ _ => rfl⟩)⟩, rfl⟩, ?_⟩
        repeat ((first | refine wpSegs_soft ?_ | refine wpSegs_pure ?_ | refine wpSegs_here ?_); (repeat (first | go_big_quiet_step (fail) | quiet_step (fail))); refine wpQuiet_nil ?_)
        refine wpSegs_done ?_
        go_wp2_with fail
        go_ret
        exact ⟨⟨false, rfl, by simp⟩, HS.out.drew.fr⟩
    · obtain rfl : k = m := by omega
      have HS := Lib.hid hS; clear hS
      have hmc := (HS.out.blk 1 rfl).drew
      by_cases h30 : k ≤ 30
      · have d1 : decide ((k : Int) ≤ 30) = true := by simp; omega
        go_wp2_with (refine wpList_load_any 24 _ rfl rfl _ 0 rfl cl _ (HS.out.blk 1 rfl).range Try.underlying24 rfl (by rw [hsz6]; kernel_rfl) ?_)
        refine (HCP.out _).mono ?_
        rintro e wF ⟨rfl, hf⟩
        have HF := Lib.hid hf; clear hf
        by_cases hcp2 : (k : Int) ≤ cp
        · have d2 : decide ((k : Int) ≤ cp) = true := by simpa using hcp2
          go_wp2_with fail
          go_ret
          have hlm := HLM.out
          refine ⟨⟨true, rfl, fun _ => ⟨⟨by rw [← HCC.out]; omega, fun e he => ?_⟩, by omega, fun i j hi hj hji => (HGD.out i hi (by omega)).2 j hj hji⟩⟩, (HS.out.fr0 HF.out).fr⟩
          obtain ⟨i, hi, rfl⟩ := List.getElem_of_mem he
          have := (HGD.out i hi (by omega)).1
          have hge := hG _ (List.getElem_mem hi)
          rw [← HFT.out, ← HSS.out]
          exact ⟨this.1, this.2, hge.2.2⟩
        · have d2 : decide ((k : Int) ≤ cp) = false := by simp; omega
          go_wp2_with fail
          go_ret
          exact ⟨⟨false, rfl, by simp⟩, (HS.out.fr0 HF.out).fr⟩
      · have d1 : decide ((k : Int) ≤ 30) = false := by simp; omega
        go_wp2_with fail
        go_ret
        exact ⟨⟨false, rfl, by simp⟩, HS.out.fr⟩
end Go.Proofs.Ytccioehckfdjdaa
namespace Go.Tum.H
open Go.Tum.Y Go.Tum.Sc Go.Tum.C Go.Proofs.Ytccioehckfdjdaa
def lms (L : List (Int × Int)) (h : H) : Int :=
  if h.next = 0 then L.length + 3 else if h.next = 1 then L.length - h.list.length + 2 else if h.next = 2 ∨ h.next = 4 ∨ h.next = 7 then 1 else if h.next = 3 then 2 else if h.next = 5 ∨ h.next = 6 then L.length - h.k + 2 else 0
section
variable {c : Cfg} {owner seq : Int} {L : List (Int × Int)} {B m : M} {h : H}
theorem TOk.lnn (ht : TOk c owner seq L B m h) : 0 ≤ lms L h ∧ lms L h ≤ L.length + 3 := by
  obtain ⟨⟨hg, hr, he, hn⟩, t2, t4, t5, _⟩ := ht
  obtain ⟨a1, a2, a3, a4, a5, a6⟩ := hg
  unfold lms
  by_cases h1 : h.next = 1
  · rw [if_neg (by omega), if_pos h1]
    have := a3 h1; have := (t4 h1).1; omega
  by_cases h2 : 2 ≤ h.next
  · have := t5 h2
    rw [this] at a6
    repeat (first | (split <;> rename_i hx) | omega)
  · repeat (first | (split <;> rename_i hx) | omega)
theorem TOk.lpos (ht : TOk c owner seq L B m h) (h8 : h.next ≠ 8) : 1 ≤ lms L h := by
  obtain ⟨⟨hg, hr, he, hn⟩, t2, t4, t5, _⟩ := ht
  obtain ⟨a1, a2, a3, a4, a5, a6⟩ := hg
  unfold lms
  by_cases h1 : h.next = 1
  · rw [if_neg (by omega), if_pos h1]
    have := a3 h1; have := (t4 h1).1; omega
  by_cases h2 : 2 ≤ h.next
  · have := t5 h2
    rw [this] at a6
    repeat (first | (split <;> rename_i hx) | omega)
  · repeat (first | (split <;> rename_i hx) | omega)
theorem lms_entry (J : Job c owner seq L B) (h : H) (hl : h.list = L) (k : Nat) (hk : k ≤ L.length) : lms L (entry c h k) ≤ if k < L.length then (L.length : Int) - k + 2 else 1 := by
  rw [entry_all (by rw [hl]; exact J.kind) k (by rw [hl]; exact hk), hl]
  by_cases hkl : k < L.length
  · rw [if_pos hkl, if_pos hkl]
    by_cases hx : (whA c (nth h k).1).1 = 16 ∧ (whA c (nth h k).1).2.1 ≠ h.held
    · rw [if_pos hx]; simp [lms]; omega
    · rw [if_neg hx]; simp [lms]
  · rw [if_neg hkl, if_neg hkl]
    simp [lms]
theorem late_down (J : Job c owner seq L B) (hm : MOk c owner seq L B m) (ho : rd m (place c 4 owner 0) = (0, seq)) {who : Int} (ht : TOk c owner seq L B m h) (h8 : h.next ≠ 8) (v s : Int) (hv : (v, s) = rd m (ask c who owner seq h).1.a) :
    lms L (tell c seq v s h) < lms L h := by
  have hok := J.ok
  have hcap := cap_bd hok
  have hLen := J.len
  have i4 := (is_own hok J.own).2.1
  have i5 := (is_own hok J.own).2.2
  have lnn := ht.lnn
  obtain ⟨⟨hg, hrg, hent, hnil⟩, t2, t4, t5, t6, t7, t8, t9⟩ := id ht
  obtain ⟨a1, a2, a3, a4, a5, a6⟩ := id hg
  have hall : ∀ e ∈ L, (rd m e.1).2 = seq := by
    rcases hm.opn with h1 | h1
    · rw [h1] at ho; simp at ho
    · exact h1.2
  unfold H.tell
  unfold ask at hv
  by_cases h0 : h.next = 0
  · rw [if_pos h0] at hv ⊢
    have hl := hnil h0
    have : lms L h = L.length + 3 := by unfold lms; rw [if_pos h0]
    rw [this]
    unfold read lms
    rw [hl]
    dsimp only
    split <;> (simp <;> omega)
  rw [if_neg h0] at hv ⊢
  by_cases h1 : h.next = 1
  · rw [if_pos h1] at hv ⊢
    have hl := a3 h1
    have hn1 := (t4 h1).1
    have : lms L h = L.length - h.list.length + 2 := by unfold lms; rw [if_neg h0, if_pos h1]
    rw [this]
    unfold read lms
    dsimp only
    split <;> (simp <;> omega)
  rw [if_neg h1] at hv ⊢
  have hlL := t5 (by omega)
  by_cases h2 : h.next = 2
  · rw [if_pos (.inl h2), at_is i4] at hv
    dsimp only at hv
    rw [ho] at hv
    simp only [Prod.mk.injEq] at hv
    rw [if_pos h2]
    have e : decide (v = 1 ∧ s = seq) = false := by simp [hv.1]
    rw [e]
    have : lms L h = 1 := by unfold lms; rw [if_neg h0, if_neg h1, if_pos (.inl h2)]
    rw [this]
    simp [unl, lms]
  rw [if_neg h2]
  by_cases h3 : h.next = 3
  · rw [if_pos h3]
    simp [lms, h3]
  rw [if_neg h3]
  by_cases h4 : h.next = 4
  · rw [if_pos (.inr h4), at_is i4] at hv
    dsimp only at hv
    rw [ho] at hv
    simp only [Prod.mk.injEq] at hv
    rw [if_pos h4]
    have e : decide (v = 1 ∧ s = seq) = false := by simp [hv.1]
    rw [e]
    simp [unl, lms, h4]
  rw [if_neg h4]
  rw [if_neg (by omega), if_neg h3] at hv
  by_cases h5 : h.next = 5
  · rw [if_pos h5] at hv ⊢
    have hk := a6 (.inr (.inr (.inl h5)))
    have hmem : nth h h.k.toNat ∈ L := by rw [← hlL]; exact nth_mem (by omega)
    have hs := hall _ hmem
    dsimp only at hv
    rw [← hv] at hs
    dsimp only at hs
    rw [if_pos (by omega)]
    have := lms_entry J { h with cv := v, cs := s, next := 6 } hlL (h.k.toNat + 1) (by rw [← hlL]; omega)
    have e : lms L h = L.length - h.k + 2 := by simp [lms, h5]
    rw [hlL] at hk
    split at this <;> omega
  rw [if_neg h5]
  have h67 : h.next = 6 ∨ h.next = 7 := by omega
  rcases h67 with h6 | h7
  · rw [if_pos h6]
    have hk := a6 (.inr (.inr (.inr h6)))
    have := lms_entry J h hlL (h.k.toNat + 1) (by rw [← hlL]; omega)
    have e : lms L h = L.length - h.k + 2 := by simp [lms, h6]
    rw [hlL] at hk
    split at this <;> omega
  · rw [if_neg (by omega), if_pos h7]
    simp [lms, h7]
theorem told_rd {who : Int} {o : Op6} (he : err m.cells.length who o = 0) : ((m.told who o).v, (m.told who o).s) = rd m o.a := by rw [told_is he]; rfl
theorem step_trace1 {who : Int} {o : Op6} (he : err m.cells.length who o = 0) : (m.step who o).trace.length = m.trace.length + 1 := by unfold M.step; rw [if_pos he]; simp
/-- The last word on a cell. -/
theorem MOk.final (J : Job c owner seq L B) (hm : MOk c owner seq L B m) (ho : rd m (place c 4 owner 0) = (0, seq)) : ∀ e ∈ L, rd m e.1 = (valAt L e.1, seq) := fun e he => by
  have hd := (hm.opn.resolve_left fun h => by rw [ho] at h; simp at h).2 e he
  have hr := J.ent e he
  rcases hm.cell e.1 hr.1 hr.2.1 with h | h
  · have := J.old e.1 hr.1 hr.2.1
    rw [h] at hd; omega
  · exact h.2
end
end Go.Tum.H
