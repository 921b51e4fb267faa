/- The law PoolBack, walked. -/
import Derived.Test.YtccioehckfdjdaaPbk
import Derived.Test.YtccioehckfdjdaaPalive
import Derived.Test.YtccioehckfdjdaaPl0
set_option linter.unusedSimpArgs false
set_option linter.unusedVariables false
namespace Go.Proofs.Ytccioehckfdjdaa
open Go.RowKit Go.Tum Go.Tum.Y
set_option maxRecDepth 100000 in
set_option maxHeartbeats 4000000 in
theorem pback_s0 (w : World) (c : Cfg) (top : Int) (a : Option Addr) (m lc : Nat) (hrc : right c = false) : Calls Try.prog 6 #[cfgV c, .int .i64 top, .slice a m lc] w fun e w' => e = .returned (.bool true) ∧ Fr [] w w' := by
  have HS := Lib.hid ((Sep.nil (Fr.refl [] w)).new 24 (cfgL c))
  have HR := Lib.hid (fun w => rright10_any w c)
  have hsz6 : (cfgL c).length = 6 := rfl
  rw [show cfgV c = .agg (cfgL c).toArray from rfl]
  generalize cfgL c = cl at *
  go_enter Try.func6, Try.ntmps6
  go_wp2_with fail
  refine (alive10_any _).mono ?_
  rintro e w1 ⟨rfl, hf⟩
  have HS := Lib.hid (HS.out.fr0 hf)
  clear hf
  go_wp2_with (first | (refine wpList_load_any 24 _ rfl rfl _ 0 rfl cl _ (HS.out.blk 0 rfl).range Try.underlying24 rfl (by rw [hsz6]; kernel_rfl) ?_))
  refine (HR.out _).mono ?_
  rintro e w1 ⟨rfl, hf⟩
  have HS := Lib.hid (HS.out.fr0 hf)
  clear hf
  rw [hrc]
  go_wp2_with fail
  go_ret
  exact ⟨rfl, HS.out.fr⟩
set_option maxRecDepth 100000 in
set_option maxHeartbeats 4000000 in
theorem pback_s1 (w : World) (c : Cfg) (top : Int) (a : Option Addr) (m lc : Nat) (hrc : right c = true) (d1 : decide ((m : Int) > 30) = true) : Calls Try.prog 6 #[cfgV c, .int .i64 top, .slice a m lc] w fun e w' => e = .returned (.bool true) ∧ Fr [] w w' := by
  have HS := Lib.hid ((Sep.nil (Fr.refl [] w)).new 24 (cfgL c))
  have HR := Lib.hid (fun w => rright10_any w c)
  have hsz6 : (cfgL c).length = 6 := rfl
  rw [show cfgV c = .agg (cfgL c).toArray from rfl]
  generalize cfgL c = cl at *
  go_enter Try.func6, Try.ntmps6
  go_wp2_with fail
  refine (alive10_any _).mono ?_
  rintro e w1 ⟨rfl, hf⟩
  have HS := Lib.hid (HS.out.fr0 hf)
  clear hf
  go_wp2_with (first | (refine wpList_load_any 24 _ rfl rfl _ 0 rfl cl _ (HS.out.blk 0 rfl).range Try.underlying24 rfl (by rw [hsz6]; kernel_rfl) ?_))
  refine (HR.out _).mono ?_
  rintro e w1 ⟨rfl, hf⟩
  have HS := Lib.hid (HS.out.fr0 hf)
  clear hf
  rw [hrc]
  go_wp2_with fail
  go_ret
  exact ⟨rfl, HS.out.fr⟩
set_option maxRecDepth 100000 in
set_option maxHeartbeats 8000000 in
theorem pback_main (w : World) (c : Cfg) (hok : Y.Ok c) (top : Int) (a : Option Addr) (m lc : Nat) (L : List (Int × Int)) (hm : m = L.length) (hm30 : m ≤ 30) (hA : ArgE enA2 2 w (.slice a m lc) L) : Calls Try.prog 6 #[cfgV c, .int .i64 top, .slice a m lc] w fun e w' => e = .returned (.bool true) ∧ Fr [] w w' := by
  have hrc : right c = true := decide_eq_true hok
  have d1 : decide ((m : Int) > 30) = false := by simp; omega
  have hmi : (m : Int) ≤ 30 := by omega
  obtain ⟨i0, hi0, hz0, hz1, hz2⟩ := info_parts P_infoU
  obtain ⟨tp, htp⟩ : ∃ tp, bits .and .i64 top 63 = tp := ⟨_, rfl⟩
  have htb : 0 ≤ tp ∧ tp ≤ 63 := by rw [← htp]; exact and_i64_bd top 63 (by omega) (by omega)
  obtain ⟨tn, htn⟩ : ∃ tn : Nat, c.t = (tn : Int) := ⟨c.t.toNat, by have := hok.t1; omega⟩
  have ht8 : tn ≤ 8 := by have := hok.t8; omega
  have hb1 := hok.b1
  have hb64 := hok.b64
  have HOF := Lib.hid (fun w => of10_any w c hok)
  have HRD := Lib.hid (fun (w' : World) (R : List Thing) seq l hl hg oa n oc hn hS => pcells_read (w0 := w) (w := w') (R := R) c hok seq l hl hg oa n oc hn hS)
  have HLM := Lib.hid (fun w => limit10_any w c hok)
  have hsz : (mapCells c).length = 24 := rfl
  have hone := oneMapP c
  have g0 : (cfgL c)[0]? = some (.int .i64 (tn : Int)) := by rw [← htn]; rfl
  have g1 : (cfgL c)[1]? = some (.int .i64 c.b) := rfl
  have HOK := Lib.hid hok
  have HTN := Lib.hid htn
  have HA := Lib.hid hA
  have HM := Lib.hid hm
  clear hm hA htn
  unfold mapV at *
  generalize mapCells c = cs at *
  have HS := Lib.hid ((Sep.nil (Fr.refl [] w)).new 24 (cfgL c))
  have HR := Lib.hid (fun w => rright10_any w c)
  have hsz6 : (cfgL c).length = 6 := rfl
  rw [show cfgV c = .agg (cfgL c).toArray from rfl]
  generalize cfgL c = cl at *
  go_enter Try.func6, Try.ntmps6
  go_wp2_with fail
  refine (alive10_any _).mono ?_
  rintro e w1 ⟨rfl, hf⟩
  have HS := Lib.hid (HS.out.fr0 hf)
  clear hf
  go_wp2_with (first | (refine wpList_load_any 24 _ rfl rfl _ 0 rfl cl _ (HS.out.blk 0 rfl).range Try.underlying24 rfl (by rw [hsz6]; kernel_rfl) ?_))
  refine (HR.out _).mono ?_
  rintro e w1 ⟨rfl, hf⟩
  have HS := Lib.hid (HS.out.fr0 hf)
  clear hf
  rw [hrc]
  go_wp2_with (first | (refine wpList_load_any 24 _ rfl rfl _ 0 rfl cl _ (HS.out.blk 0 rfl).range Try.underlying24 rfl (by rw [hsz6]; kernel_rfl) ?_))
  refine (HOF.out _).mono ?_
  rintro e w2 ⟨rfl, hf⟩
  have HS := Lib.hid ((HS.out.fr0 hf).new 31 cs); clear hf
  have k0 := ((HS.out.blk 1 rfl).cell 0).trans g0
  have k1 := (HS.out.blk 1 rfl).lt
  go_wp2_with (first | (refine wpList_store_new 31 _ (cs).toArray rfl _ _ rfl rfl rfl (by rw [List.size_toArray, hsz]; kernel_rfl) (by simp [hsz]) (all_oneCell_toArray hone) ?_) | (at_make; refine wpList_make_full _ rfl _ _ 63 rfl 0 22 i0 _ 1 Try.underlying63 hi0 hz0 hz1 .i64 .i64 _ _ tn rfl rfl rfl rfl (by rw [hz2]; omega) (by unfold maxLen; omega) (Nat.zero_le _) ?_))
  intro w3 ho hg1
  rw [made_u64] at ho
  have f3 := (Fr.refl [] _).grown hg1 (fun k e => by cases e)
  have HS := Lib.hid (((HS.out.push f3 (T := rowT 0 22 1 (.slice (some ⟨w2.heap.size + 1, 0, none⟩) tn tn) tn ((List.replicate tn 0).map (Value.int .u64))) (fp := [w2.heap.size + 1]) ⟨rfl, ho⟩ (by simp))).new 22 [.int .u64 tp, .int .u64 0])
  clear ho hg1 f3 k0 k1
  go_wp2_with (at_builtin; go_must (refine wpList_append_at _ rfl _ _ 63 rfl 0 22 i0 _ 1 8 Try.underlying63 hi0 hz0 hz1 hz2 rfl (by decide) (.slice (some ⟨w2.heap.size + 1, 0, none⟩) tn tn) tn ((List.replicate tn 0).map (Value.int .u64)) rfl (HS.out.row 1 rfl) ⟨w3.heap.size, 0, none⟩ 2 2 [.int .u64 tp, .int .u64 0] rfl rfl (fun j u h => by have := (HS.out.blk 0 rfl).cell j; simp only [Addr.add_lit, Nat.zero_add]; rw [this, h]) (by simp [Value.oneCell']) (by unfold maxLen; omega) (by omega) (Nat.zero_le _) (by simp) ?_))
  intro g c' w4 hown hg2 hgg hc1 hc2
  have h3 := (HS.out.grown 1 rfl hown hg2 (fun q e => by
    rcases hgg with h1 | h1
    · exact .inl (h1.trans e)
    · right; simp only [Value.ownBlock, Option.some.injEq] at e; rw [← e, h1]; simp)).tail
  have h4 : Sep w w4 [rowT 0 22 1 (.slice (some ⟨g, 0, none⟩) (tn + 2) c') (tn + 2) ((List.replicate tn (0 : Int) ++ [tp, 0]).map (Value.int .u64)), blkT w2.heap.size 31 cs, blkT w.heap.size 24 cl] := by
    simpa using h3
  have hfeed := P.feed_bk HOK.out tp htb.1
  rw [show c.t.toNat = tn from by rw [HTN.out]; simp] at hfeed
  have hlen : (List.replicate tn (0 : Int) ++ [tp, 0]).length = tn + 2 := by simp
  have hrng : ∀ x ∈ List.replicate tn (0 : Int) ++ [tp, 0], 0 ≤ x ∧ x ≤ 18446744073709551615 := fun x hx => by
    rcases List.mem_append.1 hx with hx | hx
    · have := List.eq_of_mem_replicate hx; subst this; decide
    · simp at hx; omega
  generalize List.replicate tn (0 : Int) ++ [tp, 0] = lst at *
  have hA4 := rowU_arg hlen.symm (h4.row 0 rfl)
  have hA4 := Lib.hid hA4
  have HS := Lib.hid h4
  have HFD := Lib.hid hfeed
  have HLE := Lib.hid hlen
  have HRN := Lib.hid hrng
  clear h3 h4 hown hg2 hgg hc1 hc2 hfeed hlen hrng
  have hmd := (HS.out.blk 1 rfl).drew
  go_wp2_with fail
  refine wp_region_fr [(1, [0, 1]), (2, [2]), (3, [3]), (0, [4, 5, 6, 7, 8])] [] (by kernel_rfl) (by kernel_rfl) ?_
  simp only [theOps, nthOp, List.map_cons, List.map_nil, Array.getD_eq_getD_getElem?, List.getElem?_toArray, List.getElem?_cons_succ, List.getElem?_cons_zero, Option.getD_some]
  refine wpSegs_soft ?_
  repeat (first | (refine wpQuiet_load_mid 31 _ _ 0 cs _ rfl rfl rfl (rangeAt_after hmd (by simp)) Try.underlying31 rfl (by rw [hsz]; kernel_rfl) ?_; simp only [Act.put, List.setIfInBounds_toArray, List.set_cons_zero, List.set_cons_succ]) | go_big_quiet_step (fail) | quiet_step (fail))
  refine wpQuiet_nil ?_
  refine wpSegs_keep ?_
  go_wp2_with fail
  refine (cells_any _ _ lst (hA4.out.fr (Fr.refl _ _).drew) (by rw [HLE.out]; omega)).mono ?_
  rintro e w5 ⟨v', rfl, hfr⟩
  have HF := Lib.hid hfr.1
  have h3 := HS.out.drew.fresh hfr; clear hfr
  obtain ⟨oa, oc, rfl⟩ := h3.form 0 rfl
  have HS := Lib.hid h3; clear h3
  go_wp2_with fail
  refine ⟨⟨⟨_, (by exact HF.out)⟩, rfl⟩, ?_⟩
  refine wpSegs_hard ?_
  go_wp2_with fail
  refine (HRD.out _ _ 5 lst (by rw [HLE.out]; omega) HRN.out oa _ oc rfl HS.out).mono ?_
  rintro e w6 ⟨b, rfl, h6⟩
  rw [HFD.out] at h6
  rw [HFD.out]
  have HS := Lib.hid (show Sep w w6 [poolT c 5 b (P.bk0 c tp), blkT w2.heap.size 31 cs, blkT w.heap.size 24 cl] from h6.sub [0, 3, 4] rfl (by decide)); clear h6 HF hmd
  go_wp2_with fail
  repeat ((first | refine wpSegs_soft ?_ | refine wpSegs_pure ?_ | refine wpSegs_here ?_); (repeat (first | go_big_quiet_step (fail) | quiet_step (fail))); refine wpQuiet_nil ?_)
  refine wpSegs_done ?_
  go_wp2_with fail
  refine (wnew_sep _ 1000).mono ?_
  rintro e w7 ⟨k, rfl, hfr⟩
  rw [show roomOf 1000 = 1000 from by decide] at hfr
  have HS := Lib.hid (HS.out.fresh hfr); clear hfr
  go_wp2_with fail
  refine (psettle_of b k c HOK.out 5 (P.bk0 c tp) ⟨1000, [], []⟩ (P.bk0_ok HOK.out tp (by omega)) (by decide) HS.out).mono ?_
  rintro e w8 ⟨rfl, h8⟩
  rw [P.settle_bk] at h8
  have HS := Lib.hid (show Sep w w8 [setT k ⟨1000, [], []⟩, poolT c 5 b (P.bk0 c tp), blkT w2.heap.size 31 cs, blkT w.heap.size 24 cl] from h8); clear h8
  have HBK := Lib.hid (P.bk_start HOK.out tp htb.1 1000)
  obtain ⟨mn, hmn⟩ : ∃ mn, min tp c.b = mn := ⟨_, rfl⟩
  have hk1 : (P.bk0 c tp).nt = mn := hmn
  have hk2 : (P.bk0 c tp).nl = 0 := rfl
  go_wp2_with fail
  refine (pmark_of b c 5 (P.bk0 c tp) (HS.out.pull 1 rfl)).mono ?_
  rintro e w9 ⟨rfl, hf⟩
  rw [hk1, hk2]
  have HS := Lib.hid (HS.out.fr0 hf); clear hf
  go_wp2_with fail
  refine (mark_sep HS.out).mono ?_
  rintro e w10 ⟨rfl, rfl⟩
  have h8 := HS.out.new 83 [.int .i64 mn, .int .i64 0]
  have HS := Lib.hid (show Sep w _ [setT k ⟨1000, [], []⟩, poolT c 5 b (P.bk0 c tp), blkT w9.heap.size 83 [.int .i64 mn, .int .i64 0], blkT w2.heap.size 31 cs, blkT w.heap.size 24 cl] from (h8.pull 1 rfl).pull 2 rfl |>.pull 1 rfl); clear h8
  go_wp2_with fail
  go_loopg [60] m (fun g vi wr => ∃ (j : Nat) (p : P.St) (s : W.S), g + j = m ∧ vi = .int .i64 (j : Int) ∧ P.Bk c tp j p s ∧ Sep w wr [setT k s, poolT c 5 b p, blkT w9.heap.size 83 [.int .i64 mn, .int .i64 0], blkT w2.heap.size 31 cs, blkT w.heap.size 24 cl])
  case atStart => exact ⟨0, _, _, by omega, rfl, HBK.out, HS.out⟩
  case round =>
    clear HS hk1 hk2
    obtain ⟨j, p, s, hgj, rfl, hbk, hS⟩ := hrel
    by_cases hj : j < m
    · have hji : (j : Int) < (m : Int) := by omega
      have hjl : j < L.length := by have := HM.out; omega
      obtain ⟨x, rfl, hx, c0, c1⟩ := (HA.out.fr hS.fr).at hjl
      generalize L[j] = act at *
      obtain ⟨ak, ab⟩ := act
      have d0 := c0 _ rfl
      have d2 := c1 0 _ rfl
      have HS := Lib.hid (hS.new 88 [.int .i64 ak, .int .i64 ab]); clear hS c0 c1
      have hdn : s.done.length ≤ 900000 := by have := hbk.done; omega
      go_wp2_with fail
      refine (pmark_of b c 5 p (HS.out.pull 2 rfl)).mono ?_
      rintro e w11 ⟨rfl, hf⟩
      have HS := Lib.hid ((HS.out.fr0 hf).new 83 [.int .i64 p.nt, .int .i64 p.nl]); clear hf d0 d2 hx
      have q0 := (HS.out.blk 1 rfl).cell 0
      have q1 := (HS.out.blk 1 rfl).cell 1
      have ql := (HS.out.blk 1 rfl).lt
      simp only [List.getElem?_cons_zero, List.getElem?_cons_succ] at q0 q1
      have hntb : 0 ≤ p.nt ∧ p.nt ≤ c.b := by have := hbk.nt; omega
      have hnlb := hbk.nl
      by_cases hk : ak = 0
      · subst hk
        go_wp2_with fail
        clear q0 q1 ql
        -- an act done (ptakeT b k c HOK.out 5 p s ab hntb hdn ((HS.out.pull 3 rfl).pull 3 rfl): the contract, P.take_acts c ab p s: what it keeps, P.take c ab p s: the act)
        refine (ptakeT b k c HOK.out 5 p s ab hntb hdn ((HS.out.pull 3 rfl).pull 3 rfl)).mono ?_
        rintro e w12 ⟨rfl, h12⟩
        have ha := P.take_acts c ab p s
        generalize P.take c ab p s = z at *
        obtain ⟨p2, s2⟩ := z
        dsimp only at h12 ha
        have HB := Lib.hid (hbk.acts ha)
        have HS := Lib.hid h12; clear h12
        go_wp2_with fail
        refine (pmark_of b c 5 p2 (HS.out.pull 1 rfl)).mono ?_
        rintro e w13 ⟨rfl, hf⟩
        have HS := Lib.hid ((HS.out.fr0 hf).new 83 [.int .i64 p2.nt, .int .i64 p2.nl]); clear hf
        have q0 := (HS.out.blk 3 rfl).cell 0
        have q1 := (HS.out.blk 3 rfl).cell 1
        have ql := (HS.out.blk 3 rfl).lt
        simp only [List.getElem?_cons_zero, List.getElem?_cons_succ] at q0 q1
        have hmd := (HS.out.blk 6 rfl).drew
        have e1 : decide (p2.nt > p.nt) = false := by have := ha.nt; simp; omega
        have e2 : decide (p2.nl < p.nl) = false := by have := ha.nl; simp; omega
        have e3 : decide (p2.nt < 0) = false := by have := HB.out.nt; simp; omega
        have e4 : decide (p2.nl > limit c) = false := by have := HB.out.nl; simp; omega
        clear ha hbk
        go_wp2_with fail
        refine wp_region_fr [(1, [0, 1, 2, 3, 4, 5, 6, 7, 8, 9, 10, 11, 12, 13, 14, 15, 16, 17, 18, 19, 20]), (2, [21]), (0, [22, 23])] [] (by kernel_rfl) (by kernel_rfl) ?_
        simp only [theOps, nthOp, List.map_cons, List.map_nil, Array.getD_eq_getD_getElem?, List.getElem?_toArray, List.getElem?_cons_succ, List.getElem?_cons_zero, Option.getD_some]
        refine wpSegs_soft ?_
        repeat (first | (refine wpQuiet_load_mid 31 _ _ 0 cs _ rfl rfl rfl (rangeAt_after hmd (by simp)) Try.underlying31 rfl (by rw [hsz]; kernel_rfl) ?_; simp only [Act.put, List.setIfInBounds_toArray, List.set_cons_zero, List.set_cons_succ]) | go_big_quiet_step (fail) | quiet_step (fail))
        refine wpQuiet_nil ?_
        refine wpSegs_keep ?_
        go_wp2_with fail
        refine (HLM.out _).mono ?_
        rintro e w14 ⟨rfl, hf⟩
        have HF := Lib.hid hf
        go_wp2_with fail
        refine ⟨⟨⟨_, (by exact HF.out)⟩, rfl⟩, ?_⟩
        repeat ((first | refine wpSegs_soft ?_ | refine wpSegs_pure ?_ | refine wpSegs_here ?_); (repeat (first | go_big_quiet_step (fail) | quiet_step (fail))); refine wpQuiet_nil ?_)
        refine wpSegs_done ?_
        go_wp2_with fail
        go_roundg (m - (j + 1))
        case measure => omega
        case rel => exact ⟨j + 1, p2, s2, by omega, by go_num, HB.out, (HS.out.drew.fr0 HF.out).sub [1, 2, 5, 6, 7] rfl (by decide)⟩
      · have dk : (ak == 0) = false := by simpa using hk
        go_wp2_with fail
        clear q0 q1 ql
        -- an act done (pgiveT b k c HOK.out 5 p s ab hnlb hdn ((HS.out.pull 3 rfl).pull 3 rfl): the contract, P.give_acts c ab p s: what it keeps, P.give c ab p s: the act)
        refine (pgiveT b k c HOK.out 5 p s ab hnlb hdn ((HS.out.pull 3 rfl).pull 3 rfl)).mono ?_
        rintro e w12 ⟨rfl, h12⟩
        have ha := P.give_acts c ab p s
        generalize P.give c ab p s = z at *
        obtain ⟨p2, s2⟩ := z
        dsimp only at h12 ha
        have HB := Lib.hid (hbk.acts ha)
        have HS := Lib.hid h12; clear h12
        go_wp2_with fail
        refine (pmark_of b c 5 p2 (HS.out.pull 1 rfl)).mono ?_
        rintro e w13 ⟨rfl, hf⟩
        have HS := Lib.hid ((HS.out.fr0 hf).new 83 [.int .i64 p2.nt, .int .i64 p2.nl]); clear hf
        have q0 := (HS.out.blk 3 rfl).cell 0
        have q1 := (HS.out.blk 3 rfl).cell 1
        have ql := (HS.out.blk 3 rfl).lt
        simp only [List.getElem?_cons_zero, List.getElem?_cons_succ] at q0 q1
        have hmd := (HS.out.blk 6 rfl).drew
        have e1 : decide (p2.nt > p.nt) = false := by have := ha.nt; simp; omega
        have e2 : decide (p2.nl < p.nl) = false := by have := ha.nl; simp; omega
        have e3 : decide (p2.nt < 0) = false := by have := HB.out.nt; simp; omega
        have e4 : decide (p2.nl > limit c) = false := by have := HB.out.nl; simp; omega
        clear ha hbk
        go_wp2_with fail
        refine wp_region_fr [(1, [0, 1, 2, 3, 4, 5, 6, 7, 8, 9, 10, 11, 12, 13, 14, 15, 16, 17, 18, 19, 20]), (2, [21]), (0, [22, 23])] [] (by kernel_rfl) (by kernel_rfl) ?_
        simp only [theOps, nthOp, List.map_cons, List.map_nil, Array.getD_eq_getD_getElem?, List.getElem?_toArray, List.getElem?_cons_succ, List.getElem?_cons_zero, Option.getD_some]
        refine wpSegs_soft ?_
        repeat (first | (refine wpQuiet_load_mid 31 _ _ 0 cs _ rfl rfl rfl (rangeAt_after hmd (by simp)) Try.underlying31 rfl (by rw [hsz]; kernel_rfl) ?_; simp only [Act.put, List.setIfInBounds_toArray, List.set_cons_zero, List.set_cons_succ]) | go_big_quiet_step (fail) | quiet_step (fail))
        refine wpQuiet_nil ?_
        refine wpSegs_keep ?_
        go_wp2_with fail
        refine (HLM.out _).mono ?_
        rintro e w14 ⟨rfl, hf⟩
        have HF := Lib.hid hf
        go_wp2_with fail
        refine ⟨⟨⟨_, (by exact HF.out)⟩, rfl⟩, ?_⟩
        repeat ((first | refine wpSegs_soft ?_ | refine wpSegs_pure ?_ | refine wpSegs_here ?_); (repeat (first | go_big_quiet_step (fail) | quiet_step (fail))); refine wpQuiet_nil ?_)
        refine wpSegs_done ?_
        go_wp2_with fail
        go_roundg (m - (j + 1))
        case measure => omega
        case rel => exact ⟨j + 1, p2, s2, by omega, by go_num, HB.out, (HS.out.drew.fr0 HF.out).sub [1, 2, 5, 6, 7] rfl (by decide)⟩
    · obtain rfl : j = m := by omega
      clear hmi
      have m0 := (hS.blk 2 rfl).cell 0
      have m1 := (hS.blk 2 rfl).cell 1
      have ml := (hS.blk 2 rfl).lt
      simp only [List.getElem?_cons_zero, List.getElem?_cons_succ] at m0 m1
      have hdn : s.done.length ≤ 900000 := by have := hbk.done; omega
      have HE := Lib.hid hbk.end
      have HB := Lib.hid hbk; clear hbk
      have HS := Lib.hid hS; clear hS
      go_wp2_with fail
      refine (pback_of b c 5 p mn 0 (HS.out.pull 1 rfl)).mono ?_
      rintro e w11 ⟨rfl, h11⟩
      rw [← hmn] at h11
      have HS := Lib.hid (h11.pull 1 rfl); clear h11
      go_wp2_with fail
      refine (back_sep HS.out (by omega) 0).mono ?_
      rintro e w12 ⟨rfl, h12⟩
      have HS := Lib.hid h12; clear h12
      have hbd : (W.back s 0).1.done.length ≤ 900000 := by rw [(W.back_nil HB.out.good).2]; simp
      go_wp2_with fail
      refine (pendT b k c HOK.out 5 { p with nt := min tp c.b, nl := 0 } (W.back s 0).1 ⟨by dsimp only; omega, by dsimp only; omega⟩ ⟨Int.le_refl _, by have := HB.out.nl; dsimp only; omega⟩ hbd HS.out).mono ?_
      rintro e w13 ⟨rfl, h13⟩
      rw [HE.out.1] at h13
      have HLN : (W.back s 0).1.list.length = 0 := by rw [HE.out.2]; rfl
      have hmn2 : ({ p with nt := min tp c.b, nl := 0 } : P.St).nt = mn := hmn
      generalize (W.back s 0).1 = sz at *
      have HS := Lib.hid h13; clear h13 hbd
      have m0 := (HS.out.blk 2 rfl).cell 0
      have m1 := (HS.out.blk 2 rfl).cell 1
      have ml := (HS.out.blk 2 rfl).lt
      simp only [List.getElem?_cons_zero, List.getElem?_cons_succ] at m0 m1
      have k1 := ((HS.out.blk 4 rfl).cell 1).trans g1
      have kl := (HS.out.blk 4 rfl).lt
      have hif : (if c.b < tp then c.b else tp) = mn := by rw [← hmn]; split <;> omega
      go_wp2_with fail
      refine wp_region_fr [(1, [0]), (2, [1]), (1, [2, 3, 4, 6]), (2, [5]), (1, [7, 8, 9, 10, 11, 12, 13, 14, 15, 16, 17, 18, 19])] [] (by kernel_rfl) (by kernel_rfl) ?_
      simp only [theOps, nthOp, List.map_cons, List.map_nil, Array.getD_eq_getD_getElem?, List.getElem?_toArray, List.getElem?_cons_succ, List.getElem?_cons_zero, Option.getD_some]
      rw [hmn] at m0
      repeat ((first | refine wpSegs_soft ?_ | refine wpSegs_pure ?_ | refine wpSegs_here ?_); (repeat (first | go_big_quiet_step (fail) | quiet_step (fail))); refine wpQuiet_nil ?_)
      refine wpSegs_keep ?_
      go_wp2_with fail
      refine (len_sep HS.out.drew).mono ?_
      rintro e w14 ⟨rfl, rfl⟩
      rw [HLN]
      go_wp2_with fail
      refine ⟨⟨⟨_, (by exact ⟨rfl, rfl, rfl, Nat.le_refl _, fun _ _ _ => rfl⟩)⟩, rfl⟩, ?_⟩
      repeat ((first | refine wpSegs_soft ?_ | refine wpSegs_pure ?_ | refine wpSegs_here ?_); (repeat (first | go_big_quiet_step (fail) | quiet_step (fail))); refine wpQuiet_nil ?_)
      refine wpSegs_keep ?_
      go_wp2_with fail
      refine (pmark_of b c 5 _ (HS.out.drew.pull 1 rfl)).mono ?_
      rintro e w15 ⟨rfl, hf⟩
      rw [hmn2]
      have HF := Lib.hid hf
      go_wp2_with fail
      refine ⟨⟨⟨_, (by exact HF.out)⟩, rfl⟩, ?_⟩
      repeat ((first | refine wpSegs_soft ?_ | refine wpSegs_pure ?_ | refine wpSegs_here ?_); (repeat (first | go_big_quiet_step (fail) | quiet_step (fail))); refine wpQuiet_nil ?_)
      refine wpSegs_done ?_
      go_wp2_with fail
      go_ret
      exact ⟨rfl, (HS.out.drew.fr0 HF.out).fr⟩
theorem pback_any (w : World) (c : Cfg) (top : Int) (a : Option Addr) (m lc : Nat) (L : List (Int × Int)) (hm : m = L.length) (hA : ArgE enA2 2 w (.slice a m lc) L) : Calls Try.prog 6 #[cfgV c, .int .i64 top, .slice a m lc] w fun e w' => e = .returned (.bool true) ∧ Fr [] w w' := by
  by_cases h0 : right c = true
  · by_cases h1 : m > 30
    · exact pback_s1 w c top a m lc h0 (by simp; omega)
    · exact pback_main w c (by unfold right at h0; simpa using h0) top a m lc L hm (by omega) hA
  · exact pback_s0 w c top a m lc (by simpa using h0)
theorem pback_row (a b d f g l top : Int) (v : Value) (L : List (Int × Int)) (w : World) (hL : ArgE enA2 2 w v L) (_ : L.length ≤ maxLen) :
    Calls Try.prog 6 #[.agg #[.int .i64 a, .int .i64 b, .int .i64 d, .int .i64 f, .int .u64 g, .int .u64 l], .int .i64 top, v] w fun e w' => e = .returned (.bool true) ∧ Fr [] w w' := by
  obtain ⟨a1, c1, rfl⟩ := hL.len
  exact pback_any w ⟨a, b, d, f, g, l⟩ top a1 _ c1 L rfl hL
end Go.Proofs.Ytccioehckfdjdaa
