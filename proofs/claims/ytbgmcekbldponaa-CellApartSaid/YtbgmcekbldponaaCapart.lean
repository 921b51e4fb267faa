/- The walk of CellApart. -/
import Derived.Test.YtbgmcekbldponaaClaw
import Derived.Test.YtbgmcekbldponaaCsteps
set_option linter.unusedSimpArgs false
set_option linter.unusedVariables false
namespace Go.Proofs.Ytbgmcekbldponaa
open Go.RowKit Go.Tum Go.Tum.C

set_option maxHeartbeats 8000000 in
set_option maxRecDepth 100000 in
theorem apart_law (x0 x1 x2 x3 x4 x5 x6 : Int) (y0 y1 y2 y3 y4 y5 y6 : Int) (v : Value) (L : List St) (w : World) (ha : ArgE enSt 7 w v L) (hL : L.length ≤ maxLen) :
    Calls Try.prog 8 #[.agg #[.int .i64 x0, .int .i64 x1, .int .i64 x2, .int .u64 x3, .int .u64 x4, .int .u64 x5, .int .u64 x6], .agg #[.int .i64 y0, .int .i64 y1, .int .i64 y2, .int .u64 y3, .int .u64 y4, .int .u64 y5, .int .u64 y6], v] w fun e w' => e = .returned (.bool true) ∧ Fr [] w w' := by
  obtain ⟨ka, hka, ea⟩ : ∃ r : Nat, r < 8 ∧ bits .and .i64 x2 7 = (r : Int) := and_i64_low x2 3 (by decide)
  obtain ⟨kb, hkb, eb⟩ : ∃ r : Nat, r < 8 ∧ bits .and .i64 y2 7 = (r : Int) := and_i64_low y2 3 (by decide)
  obtain ⟨la, lc, rfl⟩ := ha.len
  have HA := Lib.hid ha; have HEA := Lib.hid ea; have HEB := Lib.hid eb
  clear ha ea eb
  by_cases h40 : 40 < L.length
  · have h1i : (40 : Int) < (L.length : Int) := by omega
    go_enter Try.func8, Try.ntmps8
    go_wp2_with fail
    refine (alive_any _).mono ?_
    rintro e w1 ⟨rfl, hf⟩
    have HF := Lib.hid ((((Fr.refl [] w).alloc (.cells #[.int .i64 x0, .int .i64 x1, .int .i64 x2, .int .u64 x3, .int .u64 x4, .int .u64 x5, .int .u64 x6] 39)).alloc (.cells #[.int .i64 y0, .int .i64 y1, .int .i64 y2, .int .u64 y3, .int .u64 y4, .int .u64 y5, .int .u64 y6] 39)).trans hf)
    clear hf
    go_wp2_with fail
    go_ret
    exact ⟨rfl, HF.out⟩
  have h1i : (L.length : Int) ≤ 40 := by omega
  go_enter Try.func8, Try.ntmps8
  go_wp2_with fail
  refine (alive_any _).mono ?_
  rintro e w1 ⟨rfl, hf⟩
  have hS := (((Sep.nil (Fr.refl [] w)).new 39 [.int .i64 x0, .int .i64 x1, .int .i64 x2, .int .u64 x3, .int .u64 x4, .int .u64 x5, .int .u64 x6]).new 39 [.int .i64 y0, .int .i64 y1, .int .i64 y2, .int .u64 y3, .int .u64 y4, .int .u64 y5, .int .u64 y6]).fr0 hf
  simp only [World.size_alloc] at hS
  have a2 := (hS.blk 1 rfl).cell 2
  have b2 := (hS.blk 0 rfl).cell 2
  have fa := (hS.blk 1 rfl).froz 2
  have fb := (hS.blk 0 rfl).froz 2
  simp only [List.getElem?_cons_zero, List.getElem?_cons_succ] at a2 b2
  have al := (hS.blk 1 rfl).lt
  have bl := (hS.blk 0 rfl).lt
  have HS := Lib.hid hS
  have HEA2 := HEA.out; have HEB2 := HEB.out
  clear hS hf
  by_cases hab : ka = kb
  · subst hab
    go_wp2_with fail
    refine wp_region_fr [(4, [0, 1, 2, 3, 8, 9]), (1, [4, 5, 6, 7]), (2, [10]), (0, [11, 12]), (3, [13])] [w.heap.size] (by kernel_rfl) (by kernel_rfl) ?_
    simp only [theOps, nthOp, List.map_cons, List.map_nil, Array.getD_eq_getD_getElem?, List.getElem?_toArray, List.getElem?_cons_succ, List.getElem?_cons_zero, Option.getD_some]
    repeat ((first | refine wpSegs_soft ?_ | refine wpSegs_pure ?_ | refine wpSegs_here ?_); (repeat (first | go_big_quiet_step (fail) | quiet_step (fail))); refine wpQuiet_nil ?_)
    refine wpSegs_keep ?_
    go_wp2_with fail
    refine ⟨⟨⟨_, (by exact Fr.from_drew (((Fr.refl _ _).setCell (.inl (by simp)) _).drew))⟩, rfl⟩, ?_⟩
    repeat ((first | refine wpSegs_soft ?_ | refine wpSegs_pure ?_ | refine wpSegs_here ?_); (repeat (first | go_big_quiet_step (fail) | quiet_step (fail))); refine wpQuiet_nil ?_)
    refine wpSegs_hard ?_
    go_wp2_with fail
    refine wpSegs_done ?_
    go_wp2_with fail
    go_ret
    exact ⟨rfl, ((HS.out.set 1 rfl 2 (.int .i64 ka)).set 0 rfl 2 (.int .i64 ka)).drew.fr⟩
  have hab1 : ((ka : Int) == (kb : Int)) = false := by simp; omega
  have HNE := Lib.hid (show (ka : Int) ≠ (kb : Int) by omega)
  clear hab
  go_wp2_with fail
  refine wp_region_fr [(4, [0, 1, 2, 3, 8, 9]), (1, [4, 5, 6, 7]), (2, [10]), (0, [11, 12]), (3, [13])] [w.heap.size] (by kernel_rfl) (by kernel_rfl) ?_
  simp only [theOps, nthOp, List.map_cons, List.map_nil, Array.getD_eq_getD_getElem?, List.getElem?_toArray, List.getElem?_cons_succ, List.getElem?_cons_zero, Option.getD_some]
  repeat ((first | refine wpSegs_soft ?_ | refine wpSegs_pure ?_ | refine wpSegs_here ?_); (repeat (first | go_big_quiet_step (fail) | quiet_step (fail))); refine wpQuiet_nil ?_)
  refine wpSegs_keep ?_
  go_wp2_with fail
  refine ⟨⟨⟨_, (by exact Fr.from_drew (((Fr.refl _ _).setCell (.inl (by simp)) _).drew))⟩, rfl⟩, ?_⟩
  repeat ((first | refine wpSegs_soft ?_ | refine wpSegs_pure ?_ | refine wpSegs_here ?_); (repeat (first | go_big_quiet_step (fail) | quiet_step (fail))); refine wpQuiet_nil ?_)
  refine wpSegs_hard ?_
  go_wp2_with fail
  refine wpSegs_done ?_
  have hS := ((HS.out.set 1 rfl 2 (.int .i64 ka)).set 0 rfl 2 (.int .i64 kb)).drew
  simp only [List.set_cons_zero, List.set_cons_succ] at hS
  generalize (((w1.setCell ⟨w.heap.size, 2, none⟩ (.int .i64 ka)).setCell ⟨w.heap.size + 1, 2, none⟩ (.int .i64 kb))).drew = w2 at *
  clear a2 b2 fa fb al bl HS HEA2 HEB2
  have u0 := (hS.blk 1 rfl).cell 0
  have u1 := (hS.blk 1 rfl).cell 1
  have u2 := (hS.blk 1 rfl).cell 2
  have u3 := (hS.blk 1 rfl).cell 3
  have u4 := (hS.blk 1 rfl).cell 4
  have u5 := (hS.blk 1 rfl).cell 5
  have u6 := (hS.blk 1 rfl).cell 6
  have v0 := (hS.blk 0 rfl).cell 0
  have v1 := (hS.blk 0 rfl).cell 1
  have v2 := (hS.blk 0 rfl).cell 2
  have v3 := (hS.blk 0 rfl).cell 3
  have v4 := (hS.blk 0 rfl).cell 4
  have v5 := (hS.blk 0 rfl).cell 5
  have v6 := (hS.blk 0 rfl).cell 6
  simp only [List.getElem?_cons_zero, List.getElem?_cons_succ] at u0 u1 u2 u3 u4 u5 u6 v0 v1 v2 v3 v4 v5 v6
  have ul := (hS.blk 1 rfl).lt
  have vl := (hS.blk 0 rfl).lt
  have HS := Lib.hid hS
  clear hS
  go_wp2_with fail
  refine (new_any w2 8 (by decide)).mono ?_
  rintro e w3 ⟨b, rfl, hF⟩
  have HN := Lib.hid (HS.out.fresh hF)
  clear hF HS u0 u1 u2 u3 u4 u5 u6 v0 v1 v2 v3 v4 v5 v6 ul vl
  go_wp2_with fail
  go_loopg [55] L.length (fun g vi wr => ∃ k, g + k = L.length ∧ vi = .int .i64 (k : Int) ∧ Sep w wr [memT b (run (newM 8) (L.take k)), blkT (w.heap.size + 1) 39 [.int .i64 y0, .int .i64 y1, .int .i64 kb, .int .u64 y3, .int .u64 y4, .int .u64 y5, .int .u64 y6], blkT w.heap.size 39 [.int .i64 x0, .int .i64 x1, .int .i64 ka, .int .u64 x3, .int .u64 x4, .int .u64 x5, .int .u64 x6]])
  case atStart => exact ⟨0, by omega, rfl, HN.out⟩
  case round =>
    clear HN
    obtain ⟨k, hg, rfl, hS⟩ := hrel
    by_cases hk : k < L.length
    · have hki : (k : Int) < (L.length : Int) := by omega
      obtain ⟨x, rfl, hx, c0, c1⟩ := (HA.out.fr hS.fr).at hk
      have hrt := run_trace (L.take k) (newM 8)
      rw [List.length_take] at hrt
      have hrs := run_succ (newM 8) L hk
      generalize L[k] = s at *
      obtain ⟨s0, s1, s2, s3, s4, s5, s6⟩ := s
      have d0 := c0 _ rfl
      have d1 := c1 0 _ rfl
      have d2 := c1 1 _ rfl
      have d3 := c1 2 _ rfl
      have d4 := c1 3 _ rfl
      have d5 := c1 4 _ rfl
      have d6 := c1 5 _ rfl
      clear c0 c1
      have HS := Lib.hid (hS.new 39 (enSt (s0, ⟨s1, s2, s3, s4, s5, s6⟩)))
      have HRS := Lib.hid hrs
      have hrt2 : (run (newM 8) (L.take k)).trace.length ≤ 100000 := by have : (newM 8).trace.length = 0 := rfl; omega
      clear hS hrs hrt
      go_wp2_with fail
      refine ((HS.out.call 1 rfl (fun R hR => do_any hR hrt2 s0 ⟨s1, s2, s3, s4, s5, s6⟩))).mono ?_
      rintro e w5 ⟨rfl, hS⟩
      have HS2 := Lib.hid hS.tail
      clear hS HS
      go_wp2_with fail
      go_roundg (L.length - (k + 1))
      case measure => omega
      case rel => exact ⟨k + 1, by omega, rfl, by rw [HRS.out]; exact HS2.out⟩
    · obtain rfl : k = L.length := by omega
      rw [List.take_of_length_le (by omega)] at hS
      have hrt := run_trace L (newM 8)
      have hrc := run_cells L (newM 8)
      have h8 : (newM 8).cells.length = 8 := rfl
      have h0 : (newM 8).trace.length = 0 := rfl
      rw [h8] at hrc
      rw [h0] at hrt
      clear h8 h0 hk hg
      generalize run (newM 8) L = M0 at *
      have hcm := steps_comm M0 (who := x0) (who' := y0) (op := ⟨x1, ka, x3, x4, x5, x6⟩) (op' := ⟨y1, kb, y3, y4, y5, y6⟩) HNE.out
      have ht1 := told_other (m := M0) (who := x0) (who' := y0) (op := ⟨x1, ka, x3, x4, x5, x6⟩) (op' := ⟨y1, kb, y3, y4, y5, y6⟩) (Ne.symm HNE.out)
      have ht2 := told_other (m := M0) (who := y0) (who' := x0) (op := ⟨y1, kb, y3, y4, y5, y6⟩) (op' := ⟨x1, ka, x3, x4, x5, x6⟩) HNE.out
      have hl1 := step_trace M0 x0 ⟨x1, ka, x3, x4, x5, x6⟩
      have hl2 := step_trace M0 y0 ⟨y1, kb, y3, y4, y5, y6⟩
      have hcl : (((M0.step x0 ⟨x1, ka, x3, x4, x5, x6⟩).step y0 ⟨y1, kb, y3, y4, y5, y6⟩).cells.length) = 8 := by rw [step_cells, step_cells, hrc]
      obtain ⟨X, hX⟩ : ∃ X, M0.told x0 ⟨x1, ka, x3, x4, x5, x6⟩ = X := ⟨_, rfl⟩
      obtain ⟨EX, hEX⟩ : ∃ X, err M0.cells.length x0 ⟨x1, ka, x3, x4, x5, x6⟩ = X := ⟨_, rfl⟩
      obtain ⟨Y, hY⟩ : ∃ X, M0.told y0 ⟨y1, kb, y3, y4, y5, y6⟩ = X := ⟨_, rfl⟩
      obtain ⟨EY, hEY⟩ : ∃ X, err M0.cells.length y0 ⟨y1, kb, y3, y4, y5, y6⟩ = X := ⟨_, rfl⟩
      obtain ⟨MA, hMA⟩ : ∃ X, M0.step x0 ⟨x1, ka, x3, x4, x5, x6⟩ = X := ⟨_, rfl⟩
      obtain ⟨MB, hMB⟩ : ∃ X, M0.step y0 ⟨y1, kb, y3, y4, y5, y6⟩ = X := ⟨_, rfl⟩
      rw [hMA] at hcm ht2 hl1 hcl
      rw [hMB] at hcm ht1 hl2
      rw [hX, hEX] at ht1
      rw [hY, hEY] at ht2
      obtain ⟨MAB, hMAB⟩ : ∃ X, MA.step y0 ⟨y1, kb, y3, y4, y5, y6⟩ = X := ⟨_, rfl⟩
      obtain ⟨MBA, hMBA⟩ : ∃ X, MB.step x0 ⟨x1, ka, x3, x4, x5, x6⟩ = X := ⟨_, rfl⟩
      rw [hMAB, hMBA] at hcm
      rw [hMAB] at hcl
      have HCM := Lib.hid hcm; have HT1 := Lib.hid ht1; have HT2 := Lib.hid ht2; have HCL := Lib.hid hcl
      have HX := Lib.hid hX; have HEX := Lib.hid hEX; have HY := Lib.hid hY; have HEY := Lib.hid hEY; have HMA := Lib.hid hMA; have HMB := Lib.hid hMB; have HMAB := Lib.hid hMAB; have HMBA := Lib.hid hMBA
      have hM0 : M0.trace.length ≤ 100000 := by omega
      have hMa : MA.trace.length ≤ 100000 := by omega
      have hMb : MB.trace.length ≤ 100000 := by omega
      clear hcm ht1 ht2 hcl hX hEX hY hEY hMA hMB hMAB hMBA hl1 hl2 hrt hrc
      generalize gk = G at *
      have HS := Lib.hid hS
      clear hS
      go_wp2_with fail
      obtain ⟨hG, vc, vt, hM⟩ := sep_mem HS.out 0 rfl
      refine (copy_any _ b vc vt _ hM hG hM0).mono ?_
      rintro e w5 ⟨b', rfl, hF⟩
      have hS := HS.out.fresh hF
      clear hF hM hG HS
      have u0 := (hS.blk 3 rfl).cell 0
      have u1 := (hS.blk 3 rfl).cell 1
      have u2 := (hS.blk 3 rfl).cell 2
      have u3 := (hS.blk 3 rfl).cell 3
      have u4 := (hS.blk 3 rfl).cell 4
      have u5 := (hS.blk 3 rfl).cell 5
      have u6 := (hS.blk 3 rfl).cell 6
      have v0 := (hS.blk 2 rfl).cell 0
      have v1 := (hS.blk 2 rfl).cell 1
      have v2 := (hS.blk 2 rfl).cell 2
      have v3 := (hS.blk 2 rfl).cell 3
      have v4 := (hS.blk 2 rfl).cell 4
      have v5 := (hS.blk 2 rfl).cell 5
      have v6 := (hS.blk 2 rfl).cell 6
      simp only [List.getElem?_cons_zero, List.getElem?_cons_succ] at u0 u1 u2 u3 u4 u5 u6 v0 v1 v2 v3 v4 v5 v6
      have ul := (hS.blk 3 rfl).lt
      have vl := (hS.blk 2 rfl).lt
      have HS := Lib.hid hS
      clear hS
      go_wp2_with fail
      refine ((HS.out.call 1 rfl (fun R hR => do_to hR hM0 x0 ⟨x1, ka, x3, x4, x5, x6⟩ HX.out HEX.out HMA.out))).mono ?_
      rintro e w6 ⟨rfl, hS⟩
      unfold outV
      have hS := hS.new 41 [.int .u64 X.v, .int .u64 X.s, .bool X.ok]
      clear HS u0 u1 u2 u3 u4 u5 u6 v0 v1 v2 v3 v4 v5 v6 ul vl
      have u0 := (hS.blk 4 rfl).cell 0
      have u1 := (hS.blk 4 rfl).cell 1
      have u2 := (hS.blk 4 rfl).cell 2
      have u3 := (hS.blk 4 rfl).cell 3
      have u4 := (hS.blk 4 rfl).cell 4
      have u5 := (hS.blk 4 rfl).cell 5
      have u6 := (hS.blk 4 rfl).cell 6
      have v0 := (hS.blk 3 rfl).cell 0
      have v1 := (hS.blk 3 rfl).cell 1
      have v2 := (hS.blk 3 rfl).cell 2
      have v3 := (hS.blk 3 rfl).cell 3
      have v4 := (hS.blk 3 rfl).cell 4
      have v5 := (hS.blk 3 rfl).cell 5
      have v6 := (hS.blk 3 rfl).cell 6
      simp only [List.getElem?_cons_zero, List.getElem?_cons_succ] at u0 u1 u2 u3 u4 u5 u6 v0 v1 v2 v3 v4 v5 v6
      have ul := (hS.blk 4 rfl).lt
      have vl := (hS.blk 3 rfl).lt
      have HS := Lib.hid hS
      clear hS
      go_wp2_with fail
      refine ((HS.out.call 2 rfl (fun R hR => do_to hR hMa y0 ⟨y1, kb, y3, y4, y5, y6⟩ HT2.out.1 HT2.out.2 HMAB.out))).mono ?_
      rintro e w7 ⟨rfl, hS⟩
      unfold outV
      have hS := hS.new 41 [.int .u64 Y.v, .int .u64 Y.s, .bool Y.ok]
      clear HS u0 u1 u2 u3 u4 u5 u6 v0 v1 v2 v3 v4 v5 v6 ul vl
      have u0 := (hS.blk 5 rfl).cell 0
      have u1 := (hS.blk 5 rfl).cell 1
      have u2 := (hS.blk 5 rfl).cell 2
      have u3 := (hS.blk 5 rfl).cell 3
      have u4 := (hS.blk 5 rfl).cell 4
      have u5 := (hS.blk 5 rfl).cell 5
      have u6 := (hS.blk 5 rfl).cell 6
      have v0 := (hS.blk 4 rfl).cell 0
      have v1 := (hS.blk 4 rfl).cell 1
      have v2 := (hS.blk 4 rfl).cell 2
      have v3 := (hS.blk 4 rfl).cell 3
      have v4 := (hS.blk 4 rfl).cell 4
      have v5 := (hS.blk 4 rfl).cell 5
      have v6 := (hS.blk 4 rfl).cell 6
      simp only [List.getElem?_cons_zero, List.getElem?_cons_succ] at u0 u1 u2 u3 u4 u5 u6 v0 v1 v2 v3 v4 v5 v6
      have ul := (hS.blk 5 rfl).lt
      have vl := (hS.blk 4 rfl).lt
      have HS := Lib.hid hS
      clear hS
      go_wp2_with fail
      refine ((HS.out.call 2 rfl (fun R hR => do_to hR hM0 y0 ⟨y1, kb, y3, y4, y5, y6⟩ HY.out HEY.out HMB.out))).mono ?_
      rintro e w8 ⟨rfl, hS⟩
      unfold outV
      have hS := hS.new 41 [.int .u64 Y.v, .int .u64 Y.s, .bool Y.ok]
      clear HS u0 u1 u2 u3 u4 u5 u6 v0 v1 v2 v3 v4 v5 v6 ul vl
      have u0 := (hS.blk 6 rfl).cell 0
      have u1 := (hS.blk 6 rfl).cell 1
      have u2 := (hS.blk 6 rfl).cell 2
      have u3 := (hS.blk 6 rfl).cell 3
      have u4 := (hS.blk 6 rfl).cell 4
      have u5 := (hS.blk 6 rfl).cell 5
      have u6 := (hS.blk 6 rfl).cell 6
      have v0 := (hS.blk 5 rfl).cell 0
      have v1 := (hS.blk 5 rfl).cell 1
      have v2 := (hS.blk 5 rfl).cell 2
      have v3 := (hS.blk 5 rfl).cell 3
      have v4 := (hS.blk 5 rfl).cell 4
      have v5 := (hS.blk 5 rfl).cell 5
      have v6 := (hS.blk 5 rfl).cell 6
      simp only [List.getElem?_cons_zero, List.getElem?_cons_succ] at u0 u1 u2 u3 u4 u5 u6 v0 v1 v2 v3 v4 v5 v6
      have ul := (hS.blk 6 rfl).lt
      have vl := (hS.blk 5 rfl).lt
      have HS := Lib.hid hS
      clear hS
      go_wp2_with fail
      refine ((HS.out.call 3 rfl (fun R hR => do_to hR hMb x0 ⟨x1, ka, x3, x4, x5, x6⟩ HT1.out.1 HT1.out.2 HMBA.out))).mono ?_
      rintro e w9 ⟨rfl, hS⟩
      unfold outV
      have hS := hS.new 41 [.int .u64 X.v, .int .u64 X.s, .bool X.ok]
      clear HS u0 u1 u2 u3 u4 u5 u6 v0 v1 v2 v3 v4 v5 v6 ul vl
      have hS : Sep w _ [blkT w9.heap.size 41 [.int .u64 X.v, .int .u64 X.s, .bool X.ok], blkT w8.heap.size 41 [.int .u64 Y.v, .int .u64 Y.s, .bool Y.ok], blkT w7.heap.size 41 [.int .u64 Y.v, .int .u64 Y.s, .bool Y.ok], blkT w6.heap.size 41 [.int .u64 X.v, .int .u64 X.s, .bool X.ok], memT b' MBA, memT b MAB] :=
        hS.sub [0, 1, 2, 3, 4, 5] rfl (by decide)
      have HS := Lib.hid hS
      clear hS
      go_wp2_with fail
      generalize w9.heap.size = p9 at *
      generalize w8.heap.size = p8 at *
      generalize w7.heap.size = p7 at *
      generalize w6.heap.size = p6 at *
      have hpk : ∀ j : Nat, j < 8 → peek MAB j = (MAB.at j, true) ∧ peek MBA j = (MAB.at j, true) := by
        intro j hj
        have e1 := HCL.out
        have e2 := HCM.out.1
        have e3 : MBA.at j = MAB.at j := by unfold M.at; rw [e2]
        constructor
        · unfold peek; rw [if_pos (by omega), Int.toNat_natCast]
        · unfold peek; rw [if_pos (by rw [← e2]; omega), Int.toNat_natCast, e3]
      have HPK := Lib.hid hpk; clear hpk
      go_loopg [104] 8 (fun g vi wr => ∃ j, g + j = 8 ∧ vi = .int .i64 (j : Int) ∧ Sep w wr [blkT p9 41 [.int .u64 X.v, .int .u64 X.s, .bool X.ok], blkT p8 41 [.int .u64 Y.v, .int .u64 Y.s, .bool Y.ok], blkT p7 41 [.int .u64 Y.v, .int .u64 Y.s, .bool Y.ok], blkT p6 41 [.int .u64 X.v, .int .u64 X.s, .bool X.ok], memT b' MBA, memT b MAB])
      case atStart => exact ⟨0, by omega, rfl, HS.out⟩
      case round =>
        clear HS
        obtain ⟨j, hgj, rfl, hS⟩ := hrel
        by_cases hj : j < 8
        · have hji : (j : Int) < 8 := by omega
          obtain ⟨e1, e2⟩ := HPK.out j hj
          have HE1 := Lib.hid e1; have HE2 := Lib.hid e2; have HS := Lib.hid hS
          clear e1 e2 hS
          generalize MAB.at j = c at *
          obtain ⟨z1, z2⟩ := c
          go_wp2_with fail
          obtain ⟨_, vc, vt, hM⟩ := sep_mem HS.out 5 rfl
          refine (peek_any _ b vc vt _ j hM).mono ?_
          rintro e w10 ⟨rfl, hf⟩
          rw [HE1.out]
          have hS := (HS.out.fr0 hf).new 35 [.int .u64 z1, .int .u64 z2]
          clear hM hf HS
          have HS := Lib.hid hS
          clear hS
          go_wp2_with fail
          obtain ⟨_, vc, vt, hM⟩ := sep_mem HS.out 5 rfl
          refine (peek_any _ b' vc vt _ j hM).mono ?_
          rintro e w11 ⟨rfl, hf⟩
          rw [HE2.out]
          have hS := (HS.out.fr0 hf).new 35 [.int .u64 z1, .int .u64 z2]
          have q0 := (hS.blk 1 rfl).cell 0
          have q1 := (hS.blk 1 rfl).cell 1
          simp only [List.getElem?_cons_zero, List.getElem?_cons_succ] at q0 q1
          have ql := (hS.blk 1 rfl).lt
          clear hM hf HS
          have HS := Lib.hid hS.tail.tail
          clear hS
          go_wp2_with fail
          go_roundg (8 - (j + 1))
          case measure => omega
          case rel => exact ⟨j + 1, by omega, rfl, HS.out⟩
        · obtain rfl : j = 8 := by omega
          have q0 := (hS.blk 0 rfl).cell 0
          have q1 := (hS.blk 0 rfl).cell 1
          have q2 := (hS.blk 0 rfl).cell 2
          have r0 := (hS.blk 1 rfl).cell 0
          have r1 := (hS.blk 1 rfl).cell 1
          have r2 := (hS.blk 1 rfl).cell 2
          have s0 := (hS.blk 2 rfl).cell 0
          have s1 := (hS.blk 2 rfl).cell 1
          have s2 := (hS.blk 2 rfl).cell 2
          have t0 := (hS.blk 3 rfl).cell 0
          have t1 := (hS.blk 3 rfl).cell 1
          have t2 := (hS.blk 3 rfl).cell 2
          simp only [List.getElem?_cons_zero, List.getElem?_cons_succ] at q0 q1 q2 r0 r1 r2 s0 s1 s2 t0 t1 t2
          have ht := HCM.out.2
          have HTT := Lib.hid ht; clear ht
          have HS := Lib.hid hS
          clear hS
          have hb : ((MAB.trace.length : Int) == (MAB.trace.length : Int)) = true := by simp
          go_wp2_with fail
          obtain ⟨_, vc, vt, hM⟩ := sep_mem HS.out 5 rfl
          refine (total_any _ b vc vt _ hM).mono ?_
          rintro e w10 ⟨rfl, rfl⟩
          clear hM
          go_wp2_with fail
          obtain ⟨_, vc, vt, hM⟩ := sep_mem HS.out 4 rfl
          refine (total_any _ b' vc vt _ hM).mono ?_
          rintro e w10 ⟨rfl, rfl⟩
          clear hM
          rw [← HTT.out]
          go_wp2_with fail
          go_ret
          exact ⟨rfl, HS.out.fr⟩
end Go.Proofs.Ytbgmcekbldponaa
