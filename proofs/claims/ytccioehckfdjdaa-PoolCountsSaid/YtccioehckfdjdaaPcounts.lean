/- The law PoolCounts, walked. -/
import Derived.Test.YtccioehckfdjdaaPlaw
import Derived.Test.YtccioehckfdjdaaCntT
import Derived.Test.YtccioehckfdjdaaPalive
import Derived.Test.YtccioehckfdjdaaPl0
set_option linter.unusedSimpArgs false
set_option linter.unusedVariables false
namespace Go.Proofs.Ytccioehckfdjdaa
open Go.RowKit Go.Tum Go.Tum.Y
theorem tmodP {q t r : Int} (h : Int.tmod q t = r) (h0 : 0 ≤ q) (ht : 1 ≤ t) : 0 ≤ r ∧ r < t := by
  subst h
  exact ⟨Int.tmod_nonneg _ h0, Int.tmod_lt_of_pos _ (by omega)⟩
set_option maxRecDepth 100000 in
set_option maxHeartbeats 4000000 in
theorem pcounts_s0 (w : World) (c : Cfg) (top give : Int) (hrc : right c = false) : Calls Try.prog 8 #[cfgV c, .int .i64 top, .int .i64 give] w fun e w' => e = .returned (.bool true) ∧ Fr [] w w' := by
  have g1 : (cfgL c)[1]? = some (.int .i64 c.b) := rfl
  have HS := Lib.hid ((Sep.nil (Fr.refl [] w)).new 24 (cfgL c))
  have HR := Lib.hid (fun w => rright10_any w c)
  have hsz6 : (cfgL c).length = 6 := rfl
  rw [show cfgV c = .agg (cfgL c).toArray from rfl]
  generalize cfgL c = cl at *
  go_enter Try.func8, Try.ntmps8
  go_wp2_with fail
  refine (alive10_any _).mono ?_
  rintro e w1 ⟨rfl, hf⟩
  have HS := Lib.hid (HS.out.fr0 hf)
  clear hf
  go_wp2_with (first | (refine wpList_load_any 24 _ rfl rfl _ 0 rfl cl _ (HS.out.blk 0 rfl).range Try.underlying24 rfl (by rw [hsz6]; kernel_rfl) ?_))
  refine (HR.out _).mono ?_
  rintro e w1 ⟨rfl, hf⟩
  have HS := Lib.hid (HS.out.fr0 hf)
  clear hf
  rw [hrc]
  have k1 := ((HS.out.blk 0 rfl).cell 1).trans g1
  have kl := (HS.out.blk 0 rfl).lt
  go_wp2_with fail
  go_ret
  exact ⟨rfl, HS.out.fr⟩
set_option maxRecDepth 100000 in
set_option maxHeartbeats 4000000 in
theorem pcounts_s1 (w : World) (c : Cfg) (top give : Int) (hrc : right c = true) (d1 : decide (c.b > 8) = true) : Calls Try.prog 8 #[cfgV c, .int .i64 top, .int .i64 give] w fun e w' => e = .returned (.bool true) ∧ Fr [] w w' := by
  have g1 : (cfgL c)[1]? = some (.int .i64 c.b) := rfl
  have HS := Lib.hid ((Sep.nil (Fr.refl [] w)).new 24 (cfgL c))
  have HR := Lib.hid (fun w => rright10_any w c)
  have hsz6 : (cfgL c).length = 6 := rfl
  rw [show cfgV c = .agg (cfgL c).toArray from rfl]
  generalize cfgL c = cl at *
  go_enter Try.func8, Try.ntmps8
  go_wp2_with fail
  refine (alive10_any _).mono ?_
  rintro e w1 ⟨rfl, hf⟩
  have HS := Lib.hid (HS.out.fr0 hf)
  clear hf
  go_wp2_with (first | (refine wpList_load_any 24 _ rfl rfl _ 0 rfl cl _ (HS.out.blk 0 rfl).range Try.underlying24 rfl (by rw [hsz6]; kernel_rfl) ?_))
  refine (HR.out _).mono ?_
  rintro e w1 ⟨rfl, hf⟩
  have HS := Lib.hid (HS.out.fr0 hf)
  clear hf
  rw [hrc]
  have k1 := ((HS.out.blk 0 rfl).cell 1).trans g1
  have kl := (HS.out.blk 0 rfl).lt
  go_wp2_with fail
  go_ret
  exact ⟨rfl, HS.out.fr⟩
set_option maxRecDepth 100000 in
set_option maxHeartbeats 8000000 in
theorem pcounts_main (w : World) (c : Cfg) (hok : Y.Ok c) (top give : Int) (hb8 : c.b ≤ 8) : Calls Try.prog 8 #[cfgV c, .int .i64 top, .int .i64 give] w fun e w' => e = .returned (.bool true) ∧ Fr [] w w' := by
  have hrc : right c = true := decide_eq_true hok
  have d1 : decide (c.b > 8) = false := by simp; omega
  obtain ⟨i0, hi0, hz0, hz1, hz2⟩ := info_parts P_infoU
  obtain ⟨tq, htq⟩ : ∃ tq, bits .and .i64 top 15 = tq := ⟨_, rfl⟩
  have htb0 : 0 ≤ tq ∧ tq ≤ 15 := by rw [← htq]; exact and_i64_bd top 15 (by omega) (by omega)
  obtain ⟨ti, hti⟩ : ∃ ti, Int.tmod tq (c.b + 1) = ti := ⟨_, rfl⟩
  have hb1 := hok.b1
  have htr := tmodP hti htb0.1 (by omega)
  obtain ⟨tp, rfl⟩ : ∃ tp : Nat, ti = (tp : Int) := ⟨ti.toNat, by omega⟩
  have htb : (tp : Int) ≤ c.b := by omega
  have ht8' : tp ≤ 8 := by omega
  have hdz : ¬ c.b + 1 = 0 := by omega
  obtain ⟨tn, htn⟩ : ∃ tn : Nat, c.t = (tn : Int) := ⟨c.t.toNat, by have := hok.t1; omega⟩
  have ht8 : tn ≤ 8 := by have := hok.t8; omega
  have HOF := Lib.hid (fun w => of10_any w c hok)
  have HRD := Lib.hid (fun (w' : World) (R : List Thing) seq l hl hg oa n oc hn hS => pcells_read (w0 := w) (w := w') (R := R) c hok seq l hl hg oa n oc hn hS)
  have HLM := Lib.hid (fun w => limit10_any w c hok)
  have HAT := Lib.hid (fun w kind i k => at_any w c hok kind i k)
  have HWH := Lib.hid (fun i h => P.ct_what (i := i) hok h)
  unfold Tells at HWH
  have hsz : (mapCells c).length = 24 := rfl
  have hone := oneMapP c
  have g0 : (cfgL c)[0]? = some (.int .i64 (tn : Int)) := by rw [← htn]; rfl
  have g1 : (cfgL c)[1]? = some (.int .i64 c.b) := rfl
  have HOK := Lib.hid hok
  have HTN := Lib.hid htn
  clear htn
  unfold mapV at *
  generalize mapCells c = cs at *
  have HS := Lib.hid ((Sep.nil (Fr.refl [] w)).new 24 (cfgL c))
  have HR := Lib.hid (fun w => rright10_any w c)
  have hsz6 : (cfgL c).length = 6 := rfl
  rw [show cfgV c = .agg (cfgL c).toArray from rfl]
  generalize cfgL c = cl at *
  go_enter Try.func8, Try.ntmps8
  go_wp2_with fail
  refine (alive10_any _).mono ?_
  rintro e w1 ⟨rfl, hf⟩
  have HS := Lib.hid (HS.out.fr0 hf)
  clear hf
  go_wp2_with (first | (refine wpList_load_any 24 _ rfl rfl _ 0 rfl cl _ (HS.out.blk 0 rfl).range Try.underlying24 rfl (by rw [hsz6]; kernel_rfl) ?_))
  refine (HR.out _).mono ?_
  rintro e w1 ⟨rfl, hf⟩
  have HS := Lib.hid (HS.out.fr0 hf)
  clear hf
  rw [hrc]
  have k1 := ((HS.out.blk 0 rfl).cell 1).trans g1
  have kl := (HS.out.blk 0 rfl).lt
  go_wp2_with (first | (refine wpList_load_any 24 _ rfl rfl _ 0 rfl cl _ (HS.out.blk 0 rfl).range Try.underlying24 rfl (by rw [hsz6]; kernel_rfl) ?_))
  refine (HOF.out _).mono ?_
  rintro e w2 ⟨rfl, hf⟩
  have HS := Lib.hid ((HS.out.fr0 hf).new 31 cs); clear hf k1 kl
  have k0 := ((HS.out.blk 1 rfl).cell 0).trans g0
  have k1 := (HS.out.blk 1 rfl).lt
  go_wp2_with (first | (refine wpList_store_new 31 _ (cs).toArray rfl _ _ rfl rfl rfl (by rw [List.size_toArray, hsz]; kernel_rfl) (by simp [hsz]) (all_oneCell_toArray hone) ?_) | (at_make; refine wpList_make_full _ rfl _ _ 63 rfl 0 22 i0 _ 1 Try.underlying63 hi0 hz0 hz1 .i64 .i64 _ _ tn rfl rfl rfl rfl (by rw [hz2]; omega) (by unfold maxLen; omega) (Nat.zero_le _) ?_))
  intro w3 ho hg1
  rw [made_u64] at ho
  have f3 := (Fr.refl [] _).grown hg1 (fun k e => by cases e)
  have HS := Lib.hid (HS.out.push f3 (T := rowT 0 22 1 (.slice (some ⟨w2.heap.size + 1, 0, none⟩) tn tn) tn ((List.replicate tn 0).map (Value.int .u64))) (fp := [w2.heap.size + 1]) ⟨rfl, ho⟩ (by simp))
  clear ho hg1 f3 k0 k1
  have hmd := (HS.out.blk 1 rfl).drew
  go_wp2_with fail
  refine wp_region_fr [(1, [0, 1, 2, 3]), (2, [4]), (2, [5]), (2, [6]), (3, [7]), (0, [8, 9, 10, 11, 12])] [w2.heap.size + 1] (by kernel_rfl) (by kernel_rfl) ?_
  simp only [theOps, nthOp, List.map_cons, List.map_nil, Array.getD_eq_getD_getElem?, List.getElem?_toArray, List.getElem?_cons_succ, List.getElem?_cons_zero, Option.getD_some]
  refine wpSegs_soft ?_
  repeat (first | (refine wpQuiet_load_mid 31 _ _ 0 cs _ rfl rfl rfl (rangeAt_after hmd (by simp)) Try.underlying31 rfl (by rw [hsz]; kernel_rfl) ?_; simp only [Act.put, List.setIfInBounds_toArray, List.set_cons_zero, List.set_cons_succ]) | go_big_quiet_step (fail) | quiet_step (fail))
  refine wpQuiet_nil ?_
  refine wpSegs_keep ?_
  go_wp2_with fail
  refine ⟨⟨⟨_, (by exact Fr.from_drew ((Fr.refl _ _).alloc _).drew)⟩, rfl⟩, ?_⟩
  have HS := Lib.hid (HS.out.new 22 [.int .u64 tp, .int .u64 0]).drew
  refine wpSegs_keep ?_
  go_wp2_with (at_builtin; go_must (refine wpList_append_at _ rfl _ _ 63 rfl 0 22 i0 _ 1 8 Try.underlying63 hi0 hz0 hz1 hz2 rfl (by decide) (.slice (some ⟨w2.heap.size + 1, 0, none⟩) tn tn) tn ((List.replicate tn 0).map (Value.int .u64)) rfl (HS.out.row 1 rfl) ⟨w3.heap.size, 0, none⟩ 2 2 [.int .u64 tp, .int .u64 0] rfl rfl (fun j u h => by have := (HS.out.blk 0 rfl).cell j; simp only [Addr.add_lit, Nat.zero_add]; rw [this, h]) (by simp [Value.oneCell']) (by unfold maxLen; omega) (by omega) (Nat.zero_le _) (by simp) ?_))
  intro g c' w4 hown hg2 hgg hc1 hc2
  have HF0 : Hid (Fr [w2.heap.size + 1] w3.drew w4) := (Fr.from_drew ((Fr.refl _ _).alloc _).drew).grown hg2 (fun k e => .inl (by simp [Value.ownBlock] at e; simp [e.symm]))
  have h3 := (HS.out.grown 1 rfl hown hg2 (fun q e => by
    rcases hgg with h1 | h1
    · exact .inl (h1.trans e)
    · right; simp only [Value.ownBlock, Option.some.injEq] at e; rw [← e, h1]; simp)).tail
  have h4 : Sep w w4 [rowT 0 22 1 (.slice (some ⟨g, 0, none⟩) (tn + 2) c') (tn + 2) ((List.replicate tn (0 : Int) ++ [(tp : Int), 0]).map (Value.int .u64)), blkT w2.heap.size 31 cs, blkT w.heap.size 24 cl] := by
    simpa using h3
  have hfeed := P.feed_bk HOK.out (tp : Int) (by omega)
  rw [show c.t.toNat = tn from by rw [HTN.out]; simp] at hfeed
  have hlen : (List.replicate tn (0 : Int) ++ [(tp : Int), 0]).length = tn + 2 := by simp
  have hrng : ∀ x ∈ List.replicate tn (0 : Int) ++ [(tp : Int), 0], 0 ≤ x ∧ x ≤ 18446744073709551615 := fun x hx => by
    rcases List.mem_append.1 hx with hx | hx
    · have := List.eq_of_mem_replicate hx; subst this; decide
    · simp at hx; omega
  generalize List.replicate tn (0 : Int) ++ [(tp : Int), 0] = lst at *
  have hA4 := rowU_arg hlen.symm (h4.row 0 rfl)
  have hA4 := Lib.hid hA4
  have HS := Lib.hid h4
  have HFD := Lib.hid hfeed
  have HLE := Lib.hid hlen
  have HRN := Lib.hid hrng
  clear h3 h4 hown hg2 hgg hc1 hc2 hfeed hlen hrng
  go_wp2_with fail
  refine ⟨⟨⟨_, (by exact HF0.out)⟩, rfl⟩, ?_⟩
  refine wpSegs_keep ?_
  go_wp2_with fail
  refine (cells_any _ _ lst hA4.out (by rw [HLE.out]; omega)).mono ?_
  rintro e w5 ⟨v', rfl, hfr⟩
  have HF := Lib.hid hfr.1
  have h3 := HS.out.fresh hfr; clear hfr
  obtain ⟨oa, oc, rfl⟩ := h3.form 0 rfl
  have HS := Lib.hid h3; clear h3
  go_wp2_with fail
  refine ⟨⟨⟨_, (by exact HF0.out.trans (HF.out.mono (by simp)))⟩, rfl⟩, ?_⟩
  refine wpSegs_hard ?_
  go_wp2_with fail
  refine (HRD.out _ _ 5 lst (by rw [HLE.out]; omega) HRN.out oa _ oc rfl HS.out).mono ?_
  rintro e w6 ⟨b, rfl, h6⟩
  rw [HFD.out] at h6
  rw [HFD.out]
  dsimp only at h6
  rw [P.ctS_bk htb] at h6
  have HS := Lib.hid (show Sep w w6 [poolT c 5 b (P.ctS c tp tp 0), blkT w2.heap.size 31 cs, blkT w.heap.size 24 cl] from h6.sub [0, 3, 4] rfl (by decide)); clear h6 HF HF0 hmd
  go_wp2_with fail
  repeat ((first | refine wpSegs_soft ?_ | refine wpSegs_pure ?_ | refine wpSegs_here ?_); (repeat (first | go_big_quiet_step (fail) | quiet_step (fail))); refine wpQuiet_nil ?_)
  refine wpSegs_done ?_
  go_wp2_with fail
  refine (wnew_sep _ 500).mono ?_
  rintro e w7 ⟨k, rfl, hfr⟩
  rw [show roomOf 500 = 500 from by decide] at hfr
  have HS := Lib.hid (HS.out.fresh hfr); clear hfr
  go_wp2_with fail
  refine (psettle_of b k c HOK.out 5 (P.ctS c tp tp 0) ⟨500, [], []⟩ (by rw [← P.ctS_bk htb]; exact P.bk0_ok HOK.out tp (by omega)) (by decide) HS.out).mono ?_
  rintro e w8 ⟨rfl, h8⟩
  rw [← P.ctS_bk htb, P.settle_bk, P.ctS_bk htb] at h8
  have HS := Lib.hid (show Sep w w8 [setT k ⟨500, [], []⟩, poolT c 5 b (P.ctS c tp tp 0), blkT w2.heap.size 31 cs, blkT w.heap.size 24 cl] from h8); clear h8
  have hmm := @run_makeMap Try.prog
  go_wp2_with fail
  have h9 := (HS.out.cntNew Try.prog 3 3 .i64 .i64)
  have HS := Lib.hid ((h9.pull 1 rfl).pull 2 rfl |>.pull 1 rfl); clear h9
  have HS := Lib.hid (show Sep w _ [setT k ⟨500, [], []⟩, poolT c 5 b (P.ctS c tp (tp - ((0 : Nat) : Int)) 0), cntT Try.prog 3 3 .i64 .i64 w8.heap.size (P.below 0) (fun _ => 0), blkT w2.heap.size 31 cs, blkT w.heap.size 24 cl] from by simpa [P.below] using HS.out)
  go_loopg [66] tp (fun g vi wr => ∃ (j : Nat) (s : W.S) (f : Int → Int), g + j = tp ∧ vi = .int .i64 (j : Int) ∧ (P.Ct c j s ∧ ∀ z, (j : Int) ≤ z → f z = 0) ∧ Sep w wr [setT k s, poolT c 5 b (P.ctS c tp (tp - (j : Int)) 0), cntT Try.prog 3 3 .i64 .i64 w8.heap.size (P.below j) f, blkT w2.heap.size 31 cs, blkT w.heap.size 24 cl])
  case atStart => exact ⟨0, _, _, by omega, rfl, ⟨P.ct_start c, fun _ _ => rfl⟩, HS.out⟩
  case round =>
    clear HS
    obtain ⟨j, s, f, hgj, rfl, ⟨hct, hf0⟩, hS⟩ := hrel
    by_cases hj : j < tp
    · have hji : (j : Int) < (tp : Int) := by omega
      have HS := Lib.hid hS; clear hS
      have hnt : 0 ≤ (P.ctS c tp (tp - (j : Int)) 0).nt ∧ (P.ctS c tp (tp - (j : Int)) 0).nt ≤ c.b := by unfold P.ctS; dsimp only; omega
      have hdn : s.done.length ≤ 900000 := by have := hct.done; omega
      have HQ := Lib.hid (hf0 j (Int.le_refl _))
      have hwf : (Lit.int .i64 (j : Int)).wf = true := WalkArith.wf_i64 (by omega)
      have hwf1 : (Lit.int .i64 1).wf = true := by decide
      have hkm : (P.below j).length < maxLen := by rw [P.below_len]; unfold maxLen; omega
      go_wp2_with fail
      refine (ptop_of b c HOK.out 5 (P.ctS c tp (tp - (j : Int)) 0) ⟨hnt.1, by omega⟩ (HS.out.pull 1 rfl)).mono ?_
      rintro e w10 ⟨rfl, hf⟩
      rw [P.ct_top hji]
      have HS := Lib.hid (HS.out.fr0 hf); clear hf
      go_wp2_with (first | (refine wpList_load_any 31 _ rfl rfl _ 0 rfl cs _ (HS.out.blk 3 rfl).range Try.underlying31 rfl (by rw [hsz]; kernel_rfl) ?_))
      refine (HWH.out ((tp : Int) - j - 1) (by omega) _).mono ?_
      rintro e w11 ⟨rfl, hf⟩
      rw [show (tp : Int) - j - 1 = tp - 1 - j by omega]
      have HS := Lib.hid (HS.out.fr0 hf); clear hf
      go_wp2_with fail
      refine (ptakeT b k c HOK.out 5 (P.ctS c tp (tp - (j : Int)) 0) s (j : Int) hnt hdn HS.out).mono ?_
      rintro e w12 ⟨rfl, h12⟩
      have ht := P.ct_take HOK.out (m := 0) hct hji htb (by omega)
      generalize P.take c (j : Int) (P.ctS c tp (tp - (j : Int)) 0) s = z at *
      obtain ⟨p2, s2⟩ := z
      dsimp only at h12 ht
      obtain ⟨rfl, hct2, hl⟩ := ht
      have HCT := Lib.hid hct2
      have HL := Lib.hid hl
      have HS := Lib.hid h12; clear h12 hct2 hl
      go_wp2_with (first
        | (at_lookup; go_must (refine wpList_lookup_cnt HS.out 2 rfl (by rfl) _ _ 72 rfl Try.underlying3 Try.underlying72 Try.underlying3 zeroIntP rfl (j : Int) rfl hwf ?_; rw [HQ.out]))
        | (at_mapUpdate; go_must (refine wpList_update_cnt HS.out 2 rfl rfl _ _ _ 72 rfl Try.underlying3 Try.underlying72 Try.underlying3 rfl (j : Int) rfl hwf 1 rfl hwf1 hkm ?_); intro wU hU fU; have HU := Lib.hid hU; clear hU fU)
        | (refine wpList_load_any 31 _ rfl rfl _ 0 rfl cs _ (HU.out.blk 3 rfl).range Try.underlying31 rfl (by rw [hsz]; kernel_rfl) ?_))
      have hU := HU.out
      rw [if_neg (P.below_not j)] at hU
      have HS := Lib.hid hU; clear hU HU
      refine (HAT.out _ _ _ _).mono ?_
      rintro e w14 ⟨rfl, hf⟩
      have HS := Lib.hid (HS.out.fr0 hf); clear hf
      go_wp2_with fail
      refine (get_sep HS.out _).mono ?_
      rintro e w15 ⟨rfl, hf⟩
      rw [HL.out]
      have HS := Lib.hid (HS.out.fr0 hf); clear hf
      go_wp2_with fail
      go_roundg (tp - (j + 1))
      case measure => omega
      case rel =>
        refine ⟨j + 1, s2, _, by omega, by go_num, ⟨HCT.out, ?_⟩, HS.out⟩
        intro z hz
        rw [if_neg (by omega)]
        exact hf0 z (by omega)
    · obtain rfl : j = tp := by omega
      rw [show (j : Int) - (j : Int) = 0 by omega] at hS
      have HS := Lib.hid hS; clear hS
      have HLN : Hid ((s.list.length : Int) = 9 * (j : Int)) := by have := hct.len; show (s.list.length : Int) = 9 * (j : Int); omega
      have HQ2 : Hid (((P.below j).length : Int) = (j : Int)) := by show ((P.below j).length : Int) = (j : Int); rw [P.below_len]
      have hdn0 := hct.done
      go_wp2_with fail
      refine (ptop_of b c HOK.out 5 (P.ctS c j 0 0) ⟨Int.le_refl _, by unfold P.ctS; dsimp only; omega⟩ (HS.out.pull 1 rfl)).mono ?_
      rintro e w10 ⟨rfl, hf⟩
      rw [P.ct_top0]
      have HS := Lib.hid (HS.out.fr0 hf); clear hf
      go_wp2_with fail
      refine (pmark_of b c 5 (P.ctS c j 0 0) (HS.out.pull 1 rfl)).mono ?_
      rintro e w11 ⟨rfl, hf⟩
      rw [show (P.ctS c j 0 0).nt = 0 from rfl, show (P.ctS c j 0 0).nl = 0 from rfl]
      have HS := Lib.hid (HS.out.fr0 hf); clear hf
      go_wp2_with fail
      refine (len_sep HS.out).mono ?_
      rintro e w12 ⟨rfl, rfl⟩
      rw [HLN.out]
      obtain ⟨gq, hgq⟩ : ∃ gq, bits .and .i64 give 15 = gq := ⟨_, rfl⟩
      have hgb : 0 ≤ gq ∧ gq ≤ 15 := by rw [← hgq]; exact and_i64_bd give 15 (by omega) (by omega)
      obtain ⟨gm, hgm⟩ : ∃ gm : Nat, (if (j : Int) < gq then (j : Int) else gq) = (gm : Int) := ⟨(if (j : Int) < gq then (j : Int) else gq).toNat, by split <;> omega⟩
      have hgmj : gm ≤ j := by split at hgm <;> omega
      have hlm := cnt_len HS.out 2 rfl Try.underlying72 3
      rw [HQ2.out] at hlm
      go_wp2_with fail
      clear hlm
      have HS := Lib.hid (show Sep w w11 [setT k s, poolT c 5 b (P.ctS c j 0 (min ((0 : Nat) : Int) (limit c))), blkT w2.heap.size 31 cs, blkT w.heap.size 24 cl] from by
        have hl0 := limit_pos HOK.out
        rw [show min ((0 : Nat) : Int) (limit c) = 0 by omega]
        exact HS.out.sub [0, 1, 3, 4] rfl (by decide))
      have hlp := limit_pos HOK.out
      clear hct hf0 HLN HQ2
      have hdn1 : s.done.length ≤ 9 * j + 2 * 0 := by omega
      clear hdn0
      go_loopg [144] gm (fun g vi wr => ∃ (i : Nat) (s : W.S), g + i = gm ∧ vi = .int .i64 (i : Int) ∧ s.done.length ≤ 9 * j + 2 * i ∧ Sep w wr [setT k s, poolT c 5 b (P.ctS c j 0 (min (i : Int) (limit c))), blkT w2.heap.size 31 cs, blkT w.heap.size 24 cl])
      case atStart => exact ⟨0, _, by omega, rfl, hdn1, HS.out⟩
      case round =>
        clear HS hdn1
        obtain ⟨i, s1, hgi, rfl, hdn2, hS⟩ := hrel
        by_cases hi : i < gm
        · have hii : (i : Int) < (gm : Int) := by omega
          have HS := Lib.hid hS; clear hS
          go_wp2_with fail
          refine (pgiveT b k c HOK.out 5 (P.ctS c j 0 (min (i : Int) (limit c))) s1 (i : Int) ⟨by unfold P.ctS; dsimp only; omega, by unfold P.ctS; dsimp only; omega⟩ (by omega) HS.out).mono ?_
          rintro e w13 ⟨rfl, h13⟩
          rw [P.ct_give HOK.out (by omega)] at h13
          have ha := (P.give_acts c (i : Int) (P.ctS c j 0 (min (i : Int) (limit c))) s1).done
          have hda : (P.give c (i : Int) (P.ctS c j 0 (min (i : Int) (limit c))) s1).2.done.length ≤ s1.done.length + 2 := by
            unfold P.give
            split
            · dsimp only; omega
            · have h1 := P.putS_done s1 (at_ c 11 i 0) 2
              have h2 := P.putS_done (P.putS s1 (at_ c 11 i 0) 2) (at_ c 15 (P.ctS c j 0 (min (i : Int) (limit c))).nl 0) i
              dsimp only; omega
          generalize (P.give c (i : Int) (P.ctS c j 0 (min (i : Int) (limit c))) s1).2 = s3 at *
          have HS := Lib.hid h13; clear h13
          go_wp2_with fail
          go_roundg (gm - (i + 1))
          case measure => omega
          case rel => exact ⟨i + 1, s3, by omega, by go_num, by omega, HS.out⟩
        · obtain rfl : i = gm := by omega
          have HS := Lib.hid hS; clear hS
          have hmd := (HS.out.blk 2 rfl).drew
          obtain ⟨mn, hmn⟩ : ∃ mn, min (i : Int) (limit c) = mn := ⟨_, rfl⟩
          have hif2 : (if limit c < (i : Int) then limit c else (i : Int)) = mn := by rw [← hmn]; split <;> omega
          rw [hmn] at HS
          go_wp2_with fail
          refine wp_region_fr [(1, [0, 3]), (0, [2]), (2, [1]), (3, [4]), (0, [5, 6, 7, 8])] [] (by kernel_rfl) (by kernel_rfl) ?_
          simp only [theOps, nthOp, List.map_cons, List.map_nil, Array.getD_eq_getD_getElem?, List.getElem?_toArray, List.getElem?_cons_succ, List.getElem?_cons_zero, Option.getD_some]
          refine wpSegs_soft ?_
          repeat (first | (refine wpQuiet_load_mid 31 _ _ 0 cs _ rfl rfl rfl (rangeAt_after hmd (by simp)) Try.underlying31 rfl (by rw [hsz]; kernel_rfl) ?_; simp only [Act.put, List.setIfInBounds_toArray, List.set_cons_zero, List.set_cons_succ]) | go_big_quiet_step (fail) | quiet_step (fail))
          refine wpQuiet_nil ?_
          repeat ((first | refine wpSegs_soft ?_ | refine wpSegs_pure ?_ | refine wpSegs_here ?_); (repeat (first | go_big_quiet_step (fail) | quiet_step (fail))); refine wpQuiet_nil ?_)
          refine wpSegs_keep ?_
          go_wp2_with fail
          refine (pmark_of b c 5 _ (HS.out.drew.pull 1 rfl)).mono ?_
          rintro e w15 ⟨rfl, hf⟩
          rw [show (P.ctS c j 0 mn).nt = 0 from rfl, show (P.ctS c j 0 mn).nl = mn from rfl]
          have HF := Lib.hid hf
          go_wp2_with fail
          refine ⟨⟨⟨_, (by exact HF.out)⟩, rfl⟩, ?_⟩
          refine wpSegs_hard ?_
          go_wp2_with fail
          refine (HLM.out _).mono ?_
          rintro e w16 ⟨rfl, hf2⟩
          have HF2 := Lib.hid hf2
          go_wp2_with fail
          repeat ((first | refine wpSegs_soft ?_ | refine wpSegs_pure ?_ | refine wpSegs_here ?_); (repeat (first | go_big_quiet_step (fail) | quiet_step (fail))); refine wpQuiet_nil ?_)
          refine wpSegs_done ?_
          go_wp2_with fail
          go_ret
          exact ⟨rfl, ((HS.out.drew.fr0 HF.out).fr0 HF2.out).fr⟩
theorem pcounts_any (w : World) (c : Cfg) (top give : Int) : Calls Try.prog 8 #[cfgV c, .int .i64 top, .int .i64 give] w fun e w' => e = .returned (.bool true) ∧ Fr [] w w' := by
  by_cases h0 : right c = true
  · by_cases h1 : c.b > 8
    · exact pcounts_s1 w c top give h0 (by simp; omega)
    · exact pcounts_main w c (by unfold right at h0; simpa using h0) top give (by omega)
  · exact pcounts_s0 w c top give (by simpa using h0)
theorem pcounts_row (a b d f g l top give : Int) (w : World) :
    Calls Try.prog 8 #[.agg #[.int .i64 a, .int .i64 b, .int .i64 d, .int .i64 f, .int .u64 g, .int .u64 l], .int .i64 top, .int .i64 give] w fun e w' => e = .returned (.bool true) ∧ Fr [] w w' :=
  pcounts_any w ⟨a, b, d, f, g, l⟩ top give
end Go.Proofs.Ytccioehckfdjdaa
