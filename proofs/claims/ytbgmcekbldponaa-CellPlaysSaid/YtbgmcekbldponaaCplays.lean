/- The walk of CellPlays. -/
import Derived.Test.YtbgmcekbldponaaCsame
set_option linter.unusedSimpArgs false
set_option linter.unusedVariables false
namespace Go.Proofs.Ytbgmcekbldponaa
open Go.RowKit Go.Tum Go.Tum.C

set_option maxHeartbeats 8000000 in
set_option maxRecDepth 100000 in
theorem plays_law (size : Int) (v : Value) (most : Int) (L : List St) (w : World) (ha : ArgE enSt 7 w v L) (hL : L.length ≤ maxLen) :
    Calls Try.prog 3 #[.int .i64 size, v, .int .i64 most] w fun e w' => e = .returned (.bool true) ∧ Fr [] w w' := by
  obtain ⟨r, hr, er⟩ : ∃ r : Nat, r < 8 ∧ bits .and .i64 most 7 = (r : Int) := and_i64_low most 3 (by decide)
  obtain ⟨la, lc, rfl⟩ := ha.len
  have HA := Lib.hid ha; have HE := Lib.hid er
  clear ha er
  by_cases h60 : 60 < L.length
  · have h1i : decide ((L.length : Int) > (60 : Int)) = true := by simp; omega
    go_enter Try.func3, Try.ntmps3
    go_wp2_with fail
    refine (alive_any _).mono ?_
    rintro e w1 ⟨rfl, hf⟩
    have HF := Lib.hid hf
    clear hf
    go_wp2_with fail
    go_ret
    exact ⟨rfl, HF.out⟩
  have h1i : decide ((L.length : Int) > (60 : Int)) = false := by simp; omega
  have h1j : (L.length : Int) ≤ 60 := by omega
  by_cases hs1 : size < 0
  · have d1 : decide (size > 40) = false := by simp; omega
    have d2 : decide (size < 0) = true := by simp; omega
    go_enter Try.func3, Try.ntmps3
    go_wp2_with fail
    refine (alive_any _).mono ?_
    rintro e w1 ⟨rfl, hf⟩
    have HF := Lib.hid hf
    clear hf
    go_wp2_with fail
    refine (new_bad size w1 (.inl hs1)).mono ?_
    rintro e w2 ⟨rfl, rfl⟩
    go_wp2_with fail
    go_ret
    exact ⟨rfl, HF.out⟩
  have d2 : decide (size < 0) = false := by simp; omega
  by_cases hs2 : 65536 < size
  · have d1 : decide (size > 40) = true := by simp; omega
    have d3 : decide (size ≤ 65536) = false := by simp; omega
    have d4 : decide (size > 65536) = true := by simp; omega
    go_enter Try.func3, Try.ntmps3
    go_wp2_with fail
    refine (alive_any _).mono ?_
    rintro e w1 ⟨rfl, hf⟩
    have HF := Lib.hid hf
    clear hf
    go_wp2_with fail
    refine (new_bad size w1 (.inr hs2)).mono ?_
    rintro e w2 ⟨rfl, rfl⟩
    go_wp2_with fail
    go_ret
    exact ⟨rfl, HF.out⟩
  have d4 : decide (size > 65536) = false := by simp; omega
  by_cases hs3 : 40 < size
  · have d1 : decide (size > 40) = true := by simp; omega
    have d3 : decide (size ≤ 65536) = true := by simp; omega
    go_enter Try.func3, Try.ntmps3
    go_wp2_with fail
    refine (alive_any _).mono ?_
    rintro e w1 ⟨rfl, hf⟩
    have HF := Lib.hid hf
    clear hf
    go_wp2_with fail
    go_ret
    exact ⟨rfl, HF.out⟩
  have d1 : decide (size > 40) = false := by simp; omega
  obtain ⟨n, rfl⟩ : ∃ n : Nat, size = n := ⟨size.toNat, by omega⟩
  have hn : n ≤ 65536 := by omega
  have d5 : decide ((n : Int) < 0) = false := by simp
  go_enter Try.func3, Try.ntmps3
  go_wp2_with fail
  refine (alive_any _).mono ?_
  rintro e w1 ⟨rfl, hf⟩
  have HF := Lib.hid hf
  clear hf
  go_wp2_with fail
  refine (new_any w1 n hn).mono ?_
  rintro e w2 ⟨b, rfl, hF⟩
  have HS := Lib.hid ((Sep.nil HF.out).fresh hF)
  clear hF HF
  go_wp2_with fail
  refine (rnew_any w2 n hn).mono ?_
  rintro e w3 ⟨vc, rfl, hF⟩
  obtain ⟨M0, hM0⟩ : ∃ M, newM n = M := ⟨_, rfl⟩
  have hM0t : M0.trace = [] := by rw [← hM0]; rfl
  have hM0g : C.Good M0 := by rw [← hM0]; exact good_new n
  have hM0c : M0.cells.length = n := by rw [← hM0]; simp [newM]
  have hS := (HS.out.fresh (show Fresh w2 w3 (refT vc (.slice none 0 0) (newM n).cells (newM n).trace) from hF))
  rw [hM0] at hS
  obtain ⟨va, vx, hvc⟩ := ownsRow_any (sep_ref hS 0 rfl).1
  subst hvc
  have HN := Lib.hid (hS.new 31 [.slice va M0.cells.length vx, .slice none 0 0])
  have HMG := Lib.hid hM0g; have HMC := Lib.hid hM0c
  have hM0l : M0.trace.length = 0 := by rw [hM0t]; rfl
  clear hF hS HS hM0 hM0t hM0g hM0c
  go_wp2_with fail
  generalize w3.heap.size = X at *
  go_loopg [61] L.length (fun g vi wr => ∃ k, g + k = L.length ∧ vi = .int .i64 (k : Int) ∧ ∃ vc vt, Sep w wr [blkT X 31 [vc, vt], refT vc vt (run M0 (L.take k)).cells (run M0 (L.take k)).trace, memT b (run M0 (L.take k))])
  case atStart => exact ⟨0, by omega, rfl, _, _, HN.out⟩
  case round =>
    clear HN
    obtain ⟨k, hg, rfl, vc, vt, hS⟩ := hrel
    obtain ⟨ca, cc, rfl⟩ := ownsRow_any (sep_ref hS 1 rfl).1
    obtain ⟨ta, tc, rfl⟩ := ownsRow_any (sep_ref hS 1 rfl).2
    by_cases hk : k < L.length
    · have hki : (k : Int) < (L.length : Int) := by omega
      obtain ⟨x, rfl, hx, c0, c1⟩ := (HA.out.fr hS.fr).at hk
      have hrt := run_trace (L.take k) M0
      rw [List.length_take] at hrt
      have hrc := run_cells (L.take k) M0
      rw [HMC.out] at hrc
      have hrs := run_succ M0 L hk
      obtain ⟨MK, hMK⟩ : ∃ M, run M0 (L.take k) = M := ⟨_, rfl⟩
      rw [hMK] at hS hrt hrc hrs
      generalize L[k] = s at *
      obtain ⟨s0, s1, s2, s3, s4, s5, s6⟩ := s
      have e0 := c0 _ rfl
      have e1 := c1 0 _ rfl
      have e2 := c1 1 _ rfl
      have e3 := c1 2 _ rfl
      have e4 := c1 3 _ rfl
      have e5 := c1 4 _ rfl
      have e6 := c1 5 _ rfl
      clear c0 c1
      have HS := Lib.hid (hS.new 39 (enSt (s0, ⟨s1, s2, s3, s4, s5, s6⟩)))
      have HRS := Lib.hid hrs
      have hrt2 : MK.trace.length ≤ 100000 := by omega
      have hrc2 : MK.cells.length ≤ 65536 := by omega
      obtain ⟨T, hT⟩ : ∃ T, MK.told s0 ⟨s1, s2, s3, s4, s5, s6⟩ = T := ⟨_, rfl⟩
      obtain ⟨E, hE⟩ : ∃ E, err MK.cells.length s0 ⟨s1, s2, s3, s4, s5, s6⟩ = E := ⟨_, rfl⟩
      have HT := Lib.hid hT; have HEE := Lib.hid hE
      clear hS hrs hrt hrc hT hE hMK
      go_wp2_with fail
      refine ((HS.out.call 3 rfl (fun R hR => do_to hR hrt2 s0 ⟨s1, s2, s3, s4, s5, s6⟩ HT.out HEE.out rfl))).mono ?_
      rintro e w5 ⟨rfl, hS⟩
      unfold outV
      have hS := hS.new 41 [.int .u64 T.v, .int .u64 T.s, .bool T.ok]
      have q0 := (hS.blk 1 rfl).cell 0
      have q1 := (hS.blk 1 rfl).cell 1
      have q2 := (hS.blk 1 rfl).cell 2
      have q3 := (hS.blk 1 rfl).cell 3
      have q4 := (hS.blk 1 rfl).cell 4
      have q5 := (hS.blk 1 rfl).cell 5
      have q6 := (hS.blk 1 rfl).cell 6
      have u0 := (hS.blk 2 rfl).cell 0
      have u1 := (hS.blk 2 rfl).cell 1
      simp only [enSt, List.getElem?_cons_zero, List.getElem?_cons_succ] at q0 q1 q2 q3 q4 q5 q6 u0 u1
      have ql := (hS.blk 1 rfl).lt
      have ul := (hS.blk 2 rfl).lt
      clear e0 e1 e2 e3 e4 e5 e6 HS
      have HS := Lib.hid (hS.pull 3 rfl)
      clear hS
      go_wp2_with fail
      refine (rdo_any HS.out hrc2 hrt2 s0 ⟨s1, s2, s3, s4, s5, s6⟩ MK.steps).mono ?_
      rintro e w6 ⟨vc', vt', rfl, hS⟩
      rw [show M.told ⟨MK.cells, MK.steps, MK.trace⟩ s0 ⟨s1, s2, s3, s4, s5, s6⟩ = T from HT.out, HEE.out]
      unfold outV
      have hS : Sep w w6 (refT vc' vt' (MK.step s0 ⟨s1, s2, s3, s4, s5, s6⟩).cells (MK.step s0 ⟨s1, s2, s3, s4, s5, s6⟩).trace :: _) := hS
      obtain ⟨ca', cc', rfl⟩ := ownsRow_any (sep_ref hS 0 rfl).1
      obtain ⟨ta', tc', rfl⟩ := ownsRow_any (sep_ref hS 0 rfl).2
      have hS := (hS.new 31 [.slice ca' (MK.step s0 ⟨s1, s2, s3, s4, s5, s6⟩).cells.length cc', .slice ta' (MK.step s0 ⟨s1, s2, s3, s4, s5, s6⟩).trace.length tc']).new 41 [.int .u64 T.v, .int .u64 T.s, .bool T.ok]
      simp only [World.size_alloc] at hS
      have y0 := (hS.blk 1 rfl).cell 0
      have y1 := (hS.blk 1 rfl).cell 1
      have o0 := (hS.blk 3 rfl).cell 0
      have o1 := (hS.blk 3 rfl).cell 1
      have o2 := (hS.blk 3 rfl).cell 2
      have z0 := (hS.blk 0 rfl).cell 0
      have z1 := (hS.blk 0 rfl).cell 1
      have z2 := (hS.blk 0 rfl).cell 2
      have x0 := (hS.blk 5 rfl).cell 0
      have x1 := (hS.blk 5 rfl).cell 1
      have xf0 := (hS.blk 5 rfl).froz 0
      have xf1 := (hS.blk 5 rfl).froz 1
      simp only [List.getElem?_cons_zero, List.getElem?_cons_succ] at y0 y1 o0 o1 o2 z0 z1 z2 x0 x1
      have xl := (hS.blk 5 rfl).lt
      have ol := (hS.blk 3 rfl).lt
      have yl := (hS.blk 1 rfl).lt
      have zl := (hS.blk 0 rfl).lt
      have n1 := sep_ne hS 3 5 (by decide) rfl rfl
      have n2 := sep_ne hS 0 5 (by decide) rfl rfl
      clear q0 q1 q2 q3 q4 q5 q6 u0 u1 ql ul HS
      have HS := Lib.hid hS
      have hee : (E != E) = false := by simp
      clear hS
      go_wp2_with fail
      have hS := (HS.out.set 5 rfl 0 (.slice ca' (MK.step s0 ⟨s1, s2, s3, s4, s5, s6⟩).cells.length cc')).set 5 rfl 1 (.slice ta' (MK.step s0 ⟨s1, s2, s3, s4, s5, s6⟩).trace.length tc')
      have HS2 := Lib.hid (hS.sub (Ts' := [blkT X 31 [.slice ca' (MK.step s0 ⟨s1, s2, s3, s4, s5, s6⟩).cells.length cc', .slice ta' (MK.step s0 ⟨s1, s2, s3, s4, s5, s6⟩).trace.length tc'], refT (.slice ca' (MK.step s0 ⟨s1, s2, s3, s4, s5, s6⟩).cells.length cc') (.slice ta' (MK.step s0 ⟨s1, s2, s3, s4, s5, s6⟩).trace.length tc') (MK.step s0 ⟨s1, s2, s3, s4, s5, s6⟩).cells (MK.step s0 ⟨s1, s2, s3, s4, s5, s6⟩).trace, memT b (MK.step s0 ⟨s1, s2, s3, s4, s5, s6⟩)]) [5, 2, 6] rfl (by decide))
      clear hS HS
      go_roundg (L.length - (k + 1))
      case measure => omega
      case rel => exact ⟨k + 1, by omega, by go_num, _, _, by rw [HRS.out]; exact HS2.out⟩
    · obtain rfl : k = L.length := by omega
      rw [List.take_of_length_le (by omega)] at hS
      have hrt := run_trace L M0
      have hrc := run_cells L M0
      have hrg := good_run L HMG.out
      rw [HMC.out] at hrc
      rw [hM0l] at hrt
      obtain ⟨MF, hMF⟩ : ∃ M, run M0 L = M := ⟨_, rfl⟩
      rw [hMF] at hS hrt hrc hrg
      have hpo : peek MF n = ((0, 0), false) := by unfold peek; rw [if_neg (by omega)]
      have hpb : peek MF (-1) = ((0, 0), false) := by unfold peek; rw [if_neg (by omega)]
      have hs1' : stepsOf MF (-1) = 0 := by unfold stepsOf; rw [if_neg (by omega)]
      have hs8' : stepsOf MF 8 = 0 := by unfold stepsOf; rw [if_neg (by omega)]
      have HPO := Lib.hid hpo; have HPB := Lib.hid hpb; have HS1 := Lib.hid hs1'; have HS8 := Lib.hid hs8'; have HRG := Lib.hid hrg; have HS := Lib.hid hS
      have hti : (MF.trace.length : Int) ≤ 60 := by omega
      clear hS hrt hrc hrg hMF hpo hpb hs1' hs8'
      generalize gk = G at *
      go_wp2_with fail
      obtain ⟨_, mc, mt, hM⟩ := sep_mem HS.out 2 rfl
      refine (peek_any _ b mc mt _ n hM).mono ?_
      rintro e w5 ⟨rfl, hf⟩
      rw [HPO.out]
      have hS := (HS.out.fr0 hf).new 35 [.int .u64 0, .int .u64 0]
      clear hM hf HS
      have HS := Lib.hid hS
      clear hS
      go_wp2_with fail
      obtain ⟨_, mc, mt, hM⟩ := sep_mem HS.out 3 rfl
      refine (peek_any _ b mc mt _ (-1) hM).mono ?_
      rintro e w6 ⟨rfl, hf⟩
      rw [HPB.out]
      have hS := (HS.out.fr0 hf).new 35 [.int .u64 0, .int .u64 0]
      have x0 := (hS.blk 2 rfl).cell 0
      have x1 := (hS.blk 2 rfl).cell 1
      simp only [List.getElem?_cons_zero, List.getElem?_cons_succ] at x0 x1
      have xl := (hS.blk 2 rfl).lt
      clear hM hf HS
      have HS := Lib.hid hS
      clear hS
      have HE2 := HE.out
      by_cases hm : MF.trace.length < r
      · have hlr : (MF.trace.take r).length = MF.trace.length := by rw [List.length_take]; omega
        have hbb : ((MF.trace.length : Int) == (MF.trace.length : Int)) = true := by simp
        have HLR := Lib.hid hlr; clear hlr
        go_wp2_with fail
        refine wp_region_fr [(1, [0, 1]), (2, [2]), (1, [3, 4, 5, 6, 9, 10, 11, 12, 13, 14]), (2, [7]), (0, [8, 15, 16, 17, 18, 19, 20, 21, 22, 23, 24, 25, 26]), (2, [27]), (0, [28, 29, 30, 31]), (2, [32]), (0, [33, 34, 35])] [] (by kernel_rfl) (by kernel_rfl) ?_
        simp only [theOps, nthOp, List.map_cons, List.map_nil, Array.getD_eq_getD_getElem?, List.getElem?_toArray, List.getElem?_cons_succ, List.getElem?_cons_zero, Option.getD_some]
        repeat ((first | refine wpSegs_soft ?_ | refine wpSegs_pure ?_ | refine wpSegs_here ?_); (repeat (first | go_big_quiet_step (fail) | quiet_step (fail))); refine wpQuiet_nil ?_)
        refine wpSegs_keep ?_
        go_wp2_with fail
        obtain ⟨_, mc, mt, hM⟩ := sep_mem HS.out.drew 4 rfl
        refine (same_any _ b mc mt _ _ MF HRG.out (by omega) hM (sep_ref HS.out.drew 3 rfl).1 (sep_ref HS.out.drew 3 rfl).2).mono ?_
        rintro e w7 ⟨rfl, hf⟩
        have HF7 := Lib.hid hf
        have HS7 := Lib.hid (HS.out.drew.fr0 hf)
        clear hf hM
        go_wp2_with fail
        refine ⟨⟨⟨_, (by exact HF7.out)⟩, rfl⟩, ?_⟩
        repeat ((first | refine wpSegs_soft ?_ | refine wpSegs_pure ?_ | refine wpSegs_here ?_); (repeat (first | go_big_quiet_step (fail) | quiet_step (fail))); refine wpQuiet_nil ?_)
        refine wpSegs_keep ?_
        go_wp2_with fail
        obtain ⟨_, mc, mt, hM⟩ := sep_mem HS7.out 4 rfl
        refine (lawevents_any _ b mc mt _ r hM (by omega)).mono ?_
        rintro e w8 ⟨vl, rfl, hF⟩
        unfold EvRow at hF
        rw [Int.toNat_natCast] at hF
        obtain ⟨el, ec, rfl⟩ := hF.form
        rw [HLR.out]
        have HF8 := Lib.hid (HF7.out.trans hF.fr)
        have HS8' := Lib.hid (HS7.out.fr0 hF.fr)
        clear hF hM
        go_wp2_with fail
        refine ⟨⟨⟨_, (by exact HF8.out)⟩, rfl⟩, ?_⟩
        repeat ((first | refine wpSegs_soft ?_ | refine wpSegs_pure ?_ | refine wpSegs_here ?_); (repeat (first | go_big_quiet_step (fail) | quiet_step (fail))); refine wpQuiet_nil ?_)
        refine wpSegs_keep ?_
        go_wp2_with fail
        obtain ⟨_, mc, mt, hM⟩ := sep_mem HS8'.out 4 rfl
        refine (steps_any _ b mc mt _ (-1) hM).mono ?_
        rintro e w9 ⟨rfl, rfl⟩
        rw [HS1.out]
        go_wp2_with fail
        refine ⟨⟨⟨_, (by exact HF8.out)⟩, rfl⟩, ?_⟩
        repeat ((first | refine wpSegs_soft ?_ | refine wpSegs_pure ?_ | refine wpSegs_here ?_); (repeat (first | go_big_quiet_step (fail) | quiet_step (fail))); refine wpQuiet_nil ?_)
        refine wpSegs_keep ?_
        go_wp2_with fail
        refine (steps_any _ b mc mt _ 8 hM).mono ?_
        rintro e w9 ⟨rfl, rfl⟩
        rw [HS8.out]
        go_wp2_with fail
        refine ⟨⟨⟨_, (by exact HF8.out)⟩, rfl⟩, ?_⟩
        repeat ((first | refine wpSegs_soft ?_ | refine wpSegs_pure ?_ | refine wpSegs_here ?_); (repeat (first | go_big_quiet_step (fail) | quiet_step (fail))); refine wpQuiet_nil ?_)
        refine wpSegs_done ?_
        go_wp2_with fail
        go_ret
        exact ⟨rfl, HS8'.out.fr⟩
      · have hlr : (MF.trace.take r).length = r := by rw [List.length_take]; omega
        have hbb : ((r : Int) == (r : Int)) = true := by simp
        have HLR := Lib.hid hlr; clear hlr
        go_wp2_with fail
        refine wp_region_fr [(1, [0, 1]), (2, [2]), (1, [3, 4, 5, 6, 9, 10, 11, 12, 13, 14]), (2, [7]), (0, [8, 15, 16, 17, 18, 19, 20, 21, 22, 23, 24, 25, 26]), (2, [27]), (0, [28, 29, 30, 31]), (2, [32]), (0, [33, 34, 35])] [] (by kernel_rfl) (by kernel_rfl) ?_
        simp only [theOps, nthOp, List.map_cons, List.map_nil, Array.getD_eq_getD_getElem?, List.getElem?_toArray, List.getElem?_cons_succ, List.getElem?_cons_zero, Option.getD_some]
        repeat ((first | refine wpSegs_soft ?_ | refine wpSegs_pure ?_ | refine wpSegs_here ?_); (repeat (first | go_big_quiet_step (fail) | quiet_step (fail))); refine wpQuiet_nil ?_)
        refine wpSegs_keep ?_
        go_wp2_with fail
        obtain ⟨_, mc, mt, hM⟩ := sep_mem HS.out.drew 4 rfl
        refine (same_any _ b mc mt _ _ MF HRG.out (by omega) hM (sep_ref HS.out.drew 3 rfl).1 (sep_ref HS.out.drew 3 rfl).2).mono ?_
        rintro e w7 ⟨rfl, hf⟩
        have HF7 := Lib.hid hf
        have HS7 := Lib.hid (HS.out.drew.fr0 hf)
        clear hf hM
        go_wp2_with fail
        refine ⟨⟨⟨_, (by exact HF7.out)⟩, rfl⟩, ?_⟩
        repeat ((first | refine wpSegs_soft ?_ | refine wpSegs_pure ?_ | refine wpSegs_here ?_); (repeat (first | go_big_quiet_step (fail) | quiet_step (fail))); refine wpQuiet_nil ?_)
        refine wpSegs_keep ?_
        go_wp2_with fail
        obtain ⟨_, mc, mt, hM⟩ := sep_mem HS7.out 4 rfl
        refine (lawevents_any _ b mc mt _ r hM (by omega)).mono ?_
        rintro e w8 ⟨vl, rfl, hF⟩
        unfold EvRow at hF
        rw [Int.toNat_natCast] at hF
        obtain ⟨el, ec, rfl⟩ := hF.form
        rw [HLR.out]
        have HF8 := Lib.hid (HF7.out.trans hF.fr)
        have HS8' := Lib.hid (HS7.out.fr0 hF.fr)
        clear hF hM
        go_wp2_with fail
        refine ⟨⟨⟨_, (by exact HF8.out)⟩, rfl⟩, ?_⟩
        repeat ((first | refine wpSegs_soft ?_ | refine wpSegs_pure ?_ | refine wpSegs_here ?_); (repeat (first | go_big_quiet_step (fail) | quiet_step (fail))); refine wpQuiet_nil ?_)
        refine wpSegs_keep ?_
        go_wp2_with fail
        obtain ⟨_, mc, mt, hM⟩ := sep_mem HS8'.out 4 rfl
        refine (steps_any _ b mc mt _ (-1) hM).mono ?_
        rintro e w9 ⟨rfl, rfl⟩
        rw [HS1.out]
        go_wp2_with fail
        refine ⟨⟨⟨_, (by exact HF8.out)⟩, rfl⟩, ?_⟩
        repeat ((first | refine wpSegs_soft ?_ | refine wpSegs_pure ?_ | refine wpSegs_here ?_); (repeat (first | go_big_quiet_step (fail) | quiet_step (fail))); refine wpQuiet_nil ?_)
        refine wpSegs_keep ?_
        go_wp2_with fail
        refine (steps_any _ b mc mt _ 8 hM).mono ?_
        rintro e w9 ⟨rfl, rfl⟩
        rw [HS8.out]
        go_wp2_with fail
        refine ⟨⟨⟨_, (by exact HF8.out)⟩, rfl⟩, ?_⟩
        repeat ((first | refine wpSegs_soft ?_ | refine wpSegs_pure ?_ | refine wpSegs_here ?_); (repeat (first | go_big_quiet_step (fail) | quiet_step (fail))); refine wpQuiet_nil ?_)
        refine wpSegs_done ?_
        go_wp2_with fail
        go_ret
        exact ⟨rfl, HS8'.out.fr⟩
end Go.Proofs.Ytbgmcekbldponaa
