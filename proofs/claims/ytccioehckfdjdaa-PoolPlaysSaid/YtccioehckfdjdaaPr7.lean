/- The document's Settle of chapter 10. -/
import Derived.Test.YtccioehckfdjdaaPr6
import Derived.Test.YtccioehckfdjdaaPl0
set_option linter.unusedSimpArgs false
set_option linter.unusedVariables false
namespace Go.Proofs.Ytccioehckfdjdaa
open Go.RowKit Go.Tum Go.Tum.Y Go.Tum.W
set_option maxRecDepth 100000 in
set_option maxHeartbeats 16000000 in
theorem rsettle10_any {w0 w : World} {Rs : List Thing} (c : Cfg) (hok : Y.Ok c) (vn vl : Value) (hvn : vn.oneCell' = true) (hvl : vl.oneCell' = true) (ns L : List Int) (HNA : ∀ w', Sep w0 w' Rs → ArgE enU 1 w' vn ns) (HLA : ∀ w', Sep w0 w' Rs → ArgE enU 1 w' vl L) (hns : ns.length ≤ 1000) (hLn : L.length ≤ 1000) (hLg : ∀ x ∈ L, goodU x)
    (wt wl top lim : Int) (ht : 0 ≤ top ∧ top ≤ c.b) (R : Nat) (hR : R ≤ 65536) (sv : Value) (q : List (Int × Int)) (hq : q.length ≤ 90000) (h : Sep w0 w (refT sv q :: Rs)) (FIN : Int × Int × List (Int × Int)) (hFIN : P.rsettleG c ns R L 0 top 0 q = FIN) :
    Calls Try.prog 48 #[.agg (rpL c vn vl wt wl top lim).toArray, .agg #[.int .i64 R, sv]] w fun e w' => ∃ sv', e = .returned (.tuple #[.agg (rpL c vn (.slice none 0 0) wt wl FIN.1 FIN.2.1).toArray, .agg [Value.int .i64 R, sv'].toArray]) ∧ Sep w0 w' (refT sv' FIN.2.2 :: Rs) := by
  have hb1 := hok.b1
  have hb64 := hok.b64
  have hlim := limit_pos hok
  have hwb : IntKind.u64.wrap c.b = c.b := by rw [IntKind.wrap_u64]; omega
  have HAT := Lib.hid (fun w kind i => rat_any w c hok kind i 0)
  obtain ⟨la, lc, rfl⟩ := (HLA w h.tail).len
  have HNM := Lib.hid (fun (w' : World) (top lim y : Int) (hS : Sep w0 w' Rs) (hy : 0 ≤ y ∧ y ≤ 1000) => names10_any w' c vn (.slice la L.length lc) wt wl top lim ns hns (HNA w' hS) y hy)
  have HLR := Lib.hid HLA
  have HLG := Lib.hid hLg
  have HFIN := Lib.hid hFIN
  have HRN := Lib.hid (rff c vn (.slice none 0 0))
  have HNIL : Hid (∀ wt wl t l, (rpL c vn (.slice la L.length lc) wt wl t l).set 7 (.slice none 0 0) = rpL c vn (.slice none 0 0) wt wl t l) := Lib.hid fun _ _ _ _ => rfl
  have HONEN : Hid (∀ wt wl t l, ∀ u ∈ rpL c vn (.slice none 0 0) wt wl t l, u.oneCell' = true) := Lib.hid (HRN.out.one hvn rfl)
  generalize hrn : rpL c vn (.slice none 0 0) = RPn at *
  clear hrn
  clear hFIN HNA HLA hLg
  have HRF := Lib.hid (rff c vn (.slice la L.length lc))
  have HONE : Hid (∀ wt wl t l, ∀ u ∈ rpL c vn (.slice la L.length lc) wt wl t l, u.oneCell' = true) := Lib.hid (HRF.out.one hvn hvl)
  have HSV := Lib.hid (fun (w' : World) (Ts : List Thing) (sv : Value) (q : List (Int × Int)) (i : Nat) (h : Sep w0 w' Ts) (hi : Ts[i]? = some (refT sv q)) => ref_one h i hi R)
  have hS := (((h.new 65 (rpL c vn (.slice la L.length lc) wt wl top lim)).new 95 [.int .i64 R, sv]).new 65 z12).new 95 [.int .i64 0, .slice none 0 0]
  simp only [World.size_alloc] at hS
  unfold z12 at hS
  have HS := Lib.hid hS; clear hS h
  unfold cfgV at *
  generalize rpL c vn (.slice la L.length lc) = RPf at *
  have hB := HS.out.blk 3 rfl
  have r1 := (hB.cell 1).trans (HRF.out.cb _ _ _ _)
  have r6 := (hB.cell 6).trans (HRF.out.nmd _ _ _ _)
  have r7 := (hB.cell 7).trans (HRF.out.lmb _ _ _ _)
  have r10 := (hB.cell 10).trans (HRF.out.top _ _ _ _)
  have r11 := (hB.cell 11).trans (HRF.out.lim _ _ _ _)
  have rl := hB.lt
  have rz := hB.froz
  obtain ⟨n, hn⟩ : ∃ n, L.length = n := ⟨_, rfl⟩
  have HNN := Lib.hid hn
  rw [hn] at hLn HRF HLR
  clear hn
  clear r1 r6 r7 r10 r11 rl rz hB
  go_enter Try.func48, Try.ntmps48
  go_wp2_with (refine wpList_store_cell HS.out 3 rfl 11 (.int .i64 0) 3 _ _ rfl rfl rfl rfl (by rw [HRF.out.len]; decide) (by kernel_rfl) rfl (fun wA hA _ => ?_); simp only [List.set_cons_zero, List.set_cons_succ, HRF.out.slim] at hA; have HA2 := Lib.hid hA; clear hA)
  have HS := HA2
  go_wp2_with fail
  go_loopg [6] n (fun g vi wr => ∃ (j : Nat) (tj nl : Int) (sj : Value) (qj : List (Int × Int)), g + j = n ∧ vi = .int .i64 (j : Int) ∧ ((0 ≤ tj ∧ tj ≤ c.b) ∧ (0 ≤ nl ∧ nl ≤ (j : Int))) ∧ qj.length ≤ q.length + 2 * j ∧ P.rsettleG c ns R (L.drop j) j tj nl qj = FIN ∧ Sep w0 wr (blkT (w.heap.size + 1 + 1 + 1) 95 [.int .i64 0, .slice none 0 0] :: blkT (w.heap.size + 1 + 1) 65 [.int .i64 0, .int .i64 0, .int .i64 0, .int .i64 0, .int .u64 0, .int .u64 0, .slice none 0 0, .slice none 0 0, .int .i64 0, .int .i64 0, .int .i64 0, .int .i64 0] :: blkT (w.heap.size + 1) 95 [.int .i64 R, sj] :: blkT w.heap.size 65 (RPf wt wl tj nl) :: refT sj qj :: Rs))
  case atStart => exact ⟨0, top, 0, sv, q, by omega, rfl, ⟨ht, by omega, by omega⟩, by omega, HFIN.out, HS.out⟩
  case round =>
    clear HS ht HFIN
    obtain ⟨j, tj, nl, sj, qj, hgj, rfl, ⟨ht, hnl⟩, hql, hG, hS⟩ := hrel
    have HS := Lib.hid hS; clear hS
    have HG := Lib.hid hG; clear hG
    by_cases hj : j < n
    · have hji : (j : Int) < (n : Int) := by omega
      have hjl : j < L.length := by have := HNN.out; omega
      obtain ⟨x, rfl, hx, a0, a1⟩ := (HLR.out _ HS.out.tail.tail.tail.tail.tail).at hjl
      have hyg := HLG.out L[j] (List.getElem_mem hjl)
      have hG := HG.out
      rw [List.drop_eq_getElem_cons hjl] at hG
      clear HG
      generalize L[j] = y at *
      have a0 := a0 _ rfl
      clear a1
      rw [Nat.mul_one] at a0
      unfold goodU at hyg
      unfold P.rsettleG at hG
      have hp1 := P.rp1_len R qj (at_ c 15 nl 0) y
      have hp2 := P.rp1_len R qj (at_ c 11 y 0) 0
      have hp3 := P.rp1_len R (P.rp1 R qj (at_ c 11 y 0) 0) (at_ c 13 tj 0) y
      have hB := HS.out.blk 3 rfl
      have r1 := (hB.cell 1).trans (HRF.out.cb _ _ _ _)
      have r6 := (hB.cell 6).trans (HRF.out.nmd _ _ _ _)
      have r7 := (hB.cell 7).trans (HRF.out.lmb _ _ _ _)
      have r10 := (hB.cell 10).trans (HRF.out.top _ _ _ _)
      have r11 := (hB.cell 11).trans (HRF.out.lim _ _ _ _)
      have rl := hB.lt
      have rz := hB.froz
      by_cases h1 : c.b ≤ y
      · rw [if_pos h1] at hG
        have HG2 := Lib.hid hG
        have e1 : decide (y ≥ c.b) = true := by simpa using h1
        clear hG h1 hp1 hp2 hp3
        go_wp2_with fail
        clear r1 r6 r7 r10 r11 rl rz hB
        go_roundg (n - (j + 1))
        case measure => omega
        case rel => exact ⟨j + 1, tj, nl, sj, qj, by omega, by go_num, ⟨by omega, by omega⟩, by omega, HG2.out, (HS).out⟩
      · rw [if_neg h1] at hG
        have e1 : decide (y ≥ c.b) = false := by simpa using h1
        have hy2 : 0 ≤ y ∧ y < c.b := by omega
        have hwy : IntKind.i64.wrap y = y := wrap_i64_id _ (by omega) (by omega)
        have hlen : (RPf wt wl tj nl).length = 12 := HRF.out.len _ _ _ _
        clear h1
        go_wp2_with (refine wpList_load_any 65 _ rfl rfl _ 0 rfl (RPf wt wl tj nl) _ (HS.out.blk 3 rfl).range Try.underlying65 rfl (by rw [hlen]; kernel_rfl) ?_)
        refine (HNM.out _ tj nl y HS.out.tail.tail.tail.tail.tail ⟨by omega, by omega⟩).mono ?_
        rintro e w2 ⟨rfl, hf⟩
        clear r1 r6 r7 r10 r11 rl rz hB
        have HS := Lib.hid (HS.out.fr0 hf); clear hf a0 hx hlen
        have hB := HS.out.blk 3 rfl
        have r1 := (hB.cell 1).trans (HRF.out.cb _ _ _ _)
        have r6 := (hB.cell 6).trans (HRF.out.nmd _ _ _ _)
        have r7 := (hB.cell 7).trans (HRF.out.lmb _ _ _ _)
        have r10 := (hB.cell 10).trans (HRF.out.top _ _ _ _)
        have r11 := (hB.cell 11).trans (HRF.out.lim _ _ _ _)
        have rl := hB.lt
        have rz := hB.froz
        by_cases hm : y + 1 ∈ ns
        · have dm : decide (y + 1 ∈ ns) = true := by simpa using hm
          rw [dm]
          rw [if_pos hm] at hG
          clear dm hm hp2 hp3
          have hwn : IntKind.i64.wrap (nl + 1) = nl + 1 := wrap_i64_id _ (by omega) (by omega)
          by_cases hk : nl = (j : Int)
          · rw [if_neg (by simpa using hk)] at hG
            have HG2 := Lib.hid hG
            have ek : (nl != (j : Int)) = false := by simpa using hk
            clear hG hk hp1
            go_wp2_with (refine wpList_store_cell HS.out 3 rfl 11 (.int .i64 (nl + 1)) 3 _ _ rfl rfl rfl rfl (by rw [HRF.out.len]; decide) (by kernel_rfl) rfl (fun wA hA _ => ?_); simp only [List.set_cons_zero, List.set_cons_succ, HRF.out.slim] at hA; have HA3 := Lib.hid hA; clear hA)
            clear r1 r6 r7 r10 r11 rl rz hB
            go_roundg (n - (j + 1))
            case measure => omega
            case rel => exact ⟨j + 1, tj, (nl + 1), sj, qj, by omega, by go_num, ⟨by omega, by omega⟩, by omega, HG2.out, (HA3).out⟩
          · rw [if_pos hk] at hG
            have HG2 := Lib.hid hG
            have ek : (nl != (j : Int)) = true := by simpa using hk
            clear hG hk
            go_wp2_with fail
            -- tumbler/tumblerref10.Settle 9: function and region, HAT.out _ 15 nl: where, sj: sv, qj: q, sk: sv', (RPf wt wl tj nl): RP, (at_ c 15 nl 0): the place, y: the value
            have hmd := HRF.out.pre _ _ _ _ _ _ (HS.out.blk 3 rfl)
            have hsd := (HS.out.blk 2 rfl).drew
            refine wp_region_fr [(1, [0, 1, 2, 3, 4, 6]), (2, [5]), (3, [7]), (3, [8])] [] (by kernel_rfl) (by kernel_rfl) ?_
            simp only [theOps, nthOp, List.map_cons, List.map_nil, Array.getD_eq_getD_getElem?, List.getElem?_toArray, List.getElem?_cons_succ, List.getElem?_cons_zero, Option.getD_some]
            refine wpSegs_soft ?_
            repeat (first | (refine wpQuiet_load_mid 95 _ _ 0 [.int .i64 R, sj] _ rfl rfl rfl (rangeAt_after hsd (by simp <;> omega)) Try.underlying95 rfl (by kernel_rfl) ?_; simp only [Act.put, List.setIfInBounds_toArray, List.set_cons_zero, List.set_cons_succ]) | (refine wpQuiet_load_mid 24 _ _ 0 (cgL c) _ rfl rfl rfl (rangeAt_pre hmd (by simp <;> omega)) Try.underlying24 rfl (by kernel_rfl) ?_; simp only [Act.put, List.setIfInBounds_toArray, List.set_cons_zero, List.set_cons_succ]) | go_big_quiet_step (fail) | quiet_step (fail))
            refine wpQuiet_nil ?_
            refine wpSegs_keep ?_
            go_wp2_with fail
            refine (HAT.out _ 15 nl).mono ?_
            rintro e w4 ⟨rfl, hf⟩
            have HF := Lib.hid hf
            clear r1 r6 r7 r10 r11 rl rz hB
            have HS := Lib.hid (HS.out.drew.fr0 hf); clear hf hmd hsd
            have hB := HS.out.blk 3 rfl
            have r1 := (hB.cell 1).trans (HRF.out.cb _ _ _ _)
            have r6 := (hB.cell 6).trans (HRF.out.nmd _ _ _ _)
            have r7 := (hB.cell 7).trans (HRF.out.lmb _ _ _ _)
            have r10 := (hB.cell 10).trans (HRF.out.top _ _ _ _)
            have r11 := (hB.cell 11).trans (HRF.out.lim _ _ _ _)
            have rl := hB.lt
            have rz := hB.froz
            go_wp2_with fail
            refine ⟨⟨⟨_, (by exact HF.out)⟩, rfl⟩, ?_⟩
            repeat ((first | refine wpSegs_soft ?_ | refine wpSegs_pure ?_ | refine wpSegs_here ?_); (repeat (first | go_big_quiet_step (fail) | quiet_step (fail))); refine wpQuiet_nil ?_)
            refine wpSegs_hard ?_
            go_wp2_with fail
            clear r1 r6 r7 r10 r11 rl rz hB
            refine (rput10_sep R sj qj (at_ c 15 nl 0) y (by omega) hR (HS.out.pull 4 rfl)).mono ?_
            rintro e w5 ⟨sk, rfl, h5⟩
            have h6 : Sep w0 w5 (blkT (w.heap.size + 1 + 1 + 1) 95 [.int .i64 0, .slice none 0 0] :: blkT (w.heap.size + 1 + 1) 65 [.int .i64 0, .int .i64 0, .int .i64 0, .int .i64 0, .int .u64 0, .int .u64 0, .slice none 0 0, .slice none 0 0, .int .i64 0, .int .i64 0, .int .i64 0, .int .i64 0] :: blkT (w.heap.size + 1) 95 [.int .i64 R, sj] :: blkT w.heap.size 65 (RPf wt wl tj nl) :: refT sk (P.rp1 R qj (at_ c 15 nl 0) y) :: Rs) := (((h5.pull 4 rfl).pull 4 rfl).pull 4 rfl).pull 4 rfl
            clear h5
            have hone := HSV.out _ _ _ _ 4 h6 rfl
            have HS5 := Lib.hid h6; clear h6
            go_wp2_with fail
            refine wpSegs_hard ?_
            refine wpList_store_sep HS5.out 2 rfl [.int .i64 R, sk] 95 _ _ rfl rfl rfl rfl rfl (by kernel_rfl) hone (fun wA hA fA => ?_)
            simp only [List.set_cons_zero, List.set_cons_succ] at hA
            have HS := Lib.hid hA; clear hA fA HS5
            simp only [Act.put, List.setIfInBounds_toArray, List.set_cons_zero, List.set_cons_succ]
            go_wp2_with fail
            repeat ((first | refine wpSegs_soft ?_ | refine wpSegs_pure ?_ | refine wpSegs_here ?_); (repeat (first | go_big_quiet_step (fail) | quiet_step (fail))); refine wpQuiet_nil ?_)
            refine wpSegs_done ?_
            have hB := HS.out.blk 3 rfl
            have r1 := (hB.cell 1).trans (HRF.out.cb _ _ _ _)
            have r6 := (hB.cell 6).trans (HRF.out.nmd _ _ _ _)
            have r7 := (hB.cell 7).trans (HRF.out.lmb _ _ _ _)
            have r10 := (hB.cell 10).trans (HRF.out.top _ _ _ _)
            have r11 := (hB.cell 11).trans (HRF.out.lim _ _ _ _)
            have rl := hB.lt
            have rz := hB.froz
            go_wp2_with (refine wpList_store_cell HS.out 3 rfl 11 (.int .i64 (nl + 1)) 3 _ _ rfl rfl rfl rfl (by rw [HRF.out.len]; decide) (by kernel_rfl) rfl (fun wA hA _ => ?_); simp only [List.set_cons_zero, List.set_cons_succ, HRF.out.slim] at hA; have HA3 := Lib.hid hA; clear hA)
            clear r1 r6 r7 r10 r11 rl rz hB
            generalize P.rp1 R qj (at_ c 15 nl 0) y = qk at *
            go_roundg (n - (j + 1))
            case measure => omega
            case rel => exact ⟨j + 1, tj, (nl + 1), sk, qk, by omega, by go_num, ⟨by omega, by omega⟩, by omega, HG2.out, (HA3).out⟩
        · have dm : decide (y + 1 ∈ ns) = false := by simpa using hm
          rw [dm]
          rw [if_neg hm] at hG
          clear dm hm hp1
          go_wp2_with fail
          by_cases ht2 : tj < c.b
          · rw [if_pos ht2] at hG
            have HG2 := Lib.hid hG
            have et : decide (tj < c.b) = true := by simpa using ht2
            have hwt : IntKind.i64.wrap (tj + 1) = tj + 1 := wrap_i64_id _ (by omega) (by omega)
            clear hG
            -- tumbler/tumblerref10.Settle 11: function and region, HAT.out _ 11 y: where, sj: sv, qj: q, sk: sv', (RPf wt wl tj nl): RP, (at_ c 11 y 0): the place, 0: the value
            have hmd := HRF.out.pre _ _ _ _ _ _ (HS.out.blk 3 rfl)
            have hsd := (HS.out.blk 2 rfl).drew
            refine wp_region_fr [(1, [0, 1, 2, 3, 4]), (2, [5]), (3, [6]), (3, [7])] [] (by kernel_rfl) (by kernel_rfl) ?_
            simp only [theOps, nthOp, List.map_cons, List.map_nil, Array.getD_eq_getD_getElem?, List.getElem?_toArray, List.getElem?_cons_succ, List.getElem?_cons_zero, Option.getD_some]
            refine wpSegs_soft ?_
            repeat (first | (refine wpQuiet_load_mid 95 _ _ 0 [.int .i64 R, sj] _ rfl rfl rfl (rangeAt_after hsd (by simp <;> omega)) Try.underlying95 rfl (by kernel_rfl) ?_; simp only [Act.put, List.setIfInBounds_toArray, List.set_cons_zero, List.set_cons_succ]) | (refine wpQuiet_load_mid 24 _ _ 0 (cgL c) _ rfl rfl rfl (rangeAt_pre hmd (by simp <;> omega)) Try.underlying24 rfl (by kernel_rfl) ?_; simp only [Act.put, List.setIfInBounds_toArray, List.set_cons_zero, List.set_cons_succ]) | go_big_quiet_step (fail) | quiet_step (fail))
            refine wpQuiet_nil ?_
            refine wpSegs_keep ?_
            go_wp2_with fail
            refine (HAT.out _ 11 y).mono ?_
            rintro e w4 ⟨rfl, hf⟩
            have HF := Lib.hid hf
            clear r1 r6 r7 r10 r11 rl rz hB
            have HS := Lib.hid (HS.out.drew.fr0 hf); clear hf hmd hsd
            have hB := HS.out.blk 3 rfl
            have r1 := (hB.cell 1).trans (HRF.out.cb _ _ _ _)
            have r6 := (hB.cell 6).trans (HRF.out.nmd _ _ _ _)
            have r7 := (hB.cell 7).trans (HRF.out.lmb _ _ _ _)
            have r10 := (hB.cell 10).trans (HRF.out.top _ _ _ _)
            have r11 := (hB.cell 11).trans (HRF.out.lim _ _ _ _)
            have rl := hB.lt
            have rz := hB.froz
            go_wp2_with fail
            refine ⟨⟨⟨_, (by exact HF.out)⟩, rfl⟩, ?_⟩
            repeat ((first | refine wpSegs_soft ?_ | refine wpSegs_pure ?_ | refine wpSegs_here ?_); (repeat (first | go_big_quiet_step (fail) | quiet_step (fail))); refine wpQuiet_nil ?_)
            refine wpSegs_hard ?_
            go_wp2_with fail
            clear r1 r6 r7 r10 r11 rl rz hB
            refine (rput10_sep R sj qj (at_ c 11 y 0) 0 (by omega) hR (HS.out.pull 4 rfl)).mono ?_
            rintro e w5 ⟨sk, rfl, h5⟩
            have h6 : Sep w0 w5 (blkT (w.heap.size + 1 + 1 + 1) 95 [.int .i64 0, .slice none 0 0] :: blkT (w.heap.size + 1 + 1) 65 [.int .i64 0, .int .i64 0, .int .i64 0, .int .i64 0, .int .u64 0, .int .u64 0, .slice none 0 0, .slice none 0 0, .int .i64 0, .int .i64 0, .int .i64 0, .int .i64 0] :: blkT (w.heap.size + 1) 95 [.int .i64 R, sj] :: blkT w.heap.size 65 (RPf wt wl tj nl) :: refT sk (P.rp1 R qj (at_ c 11 y 0) 0) :: Rs) := (((h5.pull 4 rfl).pull 4 rfl).pull 4 rfl).pull 4 rfl
            clear h5
            have hone := HSV.out _ _ _ _ 4 h6 rfl
            have HS5 := Lib.hid h6; clear h6
            go_wp2_with fail
            refine wpSegs_hard ?_
            refine wpList_store_sep HS5.out 2 rfl [.int .i64 R, sk] 95 _ _ rfl rfl rfl rfl rfl (by kernel_rfl) hone (fun wA hA fA => ?_)
            simp only [List.set_cons_zero, List.set_cons_succ] at hA
            have HS := Lib.hid hA; clear hA fA HS5
            simp only [Act.put, List.setIfInBounds_toArray, List.set_cons_zero, List.set_cons_succ]
            go_wp2_with fail
            repeat ((first | refine wpSegs_soft ?_ | refine wpSegs_pure ?_ | refine wpSegs_here ?_); (repeat (first | go_big_quiet_step (fail) | quiet_step (fail))); refine wpQuiet_nil ?_)
            refine wpSegs_done ?_
            have hB := HS.out.blk 3 rfl
            have r1 := (hB.cell 1).trans (HRF.out.cb _ _ _ _)
            have r6 := (hB.cell 6).trans (HRF.out.nmd _ _ _ _)
            have r7 := (hB.cell 7).trans (HRF.out.lmb _ _ _ _)
            have r10 := (hB.cell 10).trans (HRF.out.top _ _ _ _)
            have r11 := (hB.cell 11).trans (HRF.out.lim _ _ _ _)
            have rl := hB.lt
            have rz := hB.froz
            generalize P.rp1 R qj (at_ c 11 y 0) 0 = qk at *
            go_wp2_with fail
            -- tumbler/tumblerref10.Settle 13: function and region, HAT.out _ 13 tj: where, sk: sv, qk: q, sm: sv', (RPf wt wl tj nl): RP, (at_ c 13 tj 0): the place, y: the value
            have hmd := HRF.out.pre _ _ _ _ _ _ (HS.out.blk 3 rfl)
            have hsd := (HS.out.blk 2 rfl).drew
            refine wp_region_fr [(1, [0, 1, 2, 3, 4, 6]), (2, [5]), (3, [7]), (3, [8])] [] (by kernel_rfl) (by kernel_rfl) ?_
            simp only [theOps, nthOp, List.map_cons, List.map_nil, Array.getD_eq_getD_getElem?, List.getElem?_toArray, List.getElem?_cons_succ, List.getElem?_cons_zero, Option.getD_some]
            refine wpSegs_soft ?_
            repeat (first | (refine wpQuiet_load_mid 95 _ _ 0 [.int .i64 R, sk] _ rfl rfl rfl (rangeAt_after hsd (by simp <;> omega)) Try.underlying95 rfl (by kernel_rfl) ?_; simp only [Act.put, List.setIfInBounds_toArray, List.set_cons_zero, List.set_cons_succ]) | (refine wpQuiet_load_mid 24 _ _ 0 (cgL c) _ rfl rfl rfl (rangeAt_pre hmd (by simp <;> omega)) Try.underlying24 rfl (by kernel_rfl) ?_; simp only [Act.put, List.setIfInBounds_toArray, List.set_cons_zero, List.set_cons_succ]) | go_big_quiet_step (fail) | quiet_step (fail))
            refine wpQuiet_nil ?_
            refine wpSegs_keep ?_
            go_wp2_with fail
            refine (HAT.out _ 13 tj).mono ?_
            rintro e w4 ⟨rfl, hf⟩
            have HF := Lib.hid hf
            clear r1 r6 r7 r10 r11 rl rz hB
            have HS := Lib.hid (HS.out.drew.fr0 hf); clear hf hmd hsd
            have hB := HS.out.blk 3 rfl
            have r1 := (hB.cell 1).trans (HRF.out.cb _ _ _ _)
            have r6 := (hB.cell 6).trans (HRF.out.nmd _ _ _ _)
            have r7 := (hB.cell 7).trans (HRF.out.lmb _ _ _ _)
            have r10 := (hB.cell 10).trans (HRF.out.top _ _ _ _)
            have r11 := (hB.cell 11).trans (HRF.out.lim _ _ _ _)
            have rl := hB.lt
            have rz := hB.froz
            go_wp2_with fail
            refine ⟨⟨⟨_, (by exact HF.out)⟩, rfl⟩, ?_⟩
            repeat ((first | refine wpSegs_soft ?_ | refine wpSegs_pure ?_ | refine wpSegs_here ?_); (repeat (first | go_big_quiet_step (fail) | quiet_step (fail))); refine wpQuiet_nil ?_)
            refine wpSegs_hard ?_
            go_wp2_with fail
            clear r1 r6 r7 r10 r11 rl rz hB
            refine (rput10_sep R sk qk (at_ c 13 tj 0) y (by omega) hR (HS.out.pull 4 rfl)).mono ?_
            rintro e w5 ⟨sm, rfl, h5⟩
            have h6 : Sep w0 w5 (blkT (w.heap.size + 1 + 1 + 1) 95 [.int .i64 0, .slice none 0 0] :: blkT (w.heap.size + 1 + 1) 65 [.int .i64 0, .int .i64 0, .int .i64 0, .int .i64 0, .int .u64 0, .int .u64 0, .slice none 0 0, .slice none 0 0, .int .i64 0, .int .i64 0, .int .i64 0, .int .i64 0] :: blkT (w.heap.size + 1) 95 [.int .i64 R, sk] :: blkT w.heap.size 65 (RPf wt wl tj nl) :: refT sm (P.rp1 R qk (at_ c 13 tj 0) y) :: Rs) := (((h5.pull 4 rfl).pull 4 rfl).pull 4 rfl).pull 4 rfl
            clear h5
            have hone := HSV.out _ _ _ _ 4 h6 rfl
            have HS5 := Lib.hid h6; clear h6
            go_wp2_with fail
            refine wpSegs_hard ?_
            refine wpList_store_sep HS5.out 2 rfl [.int .i64 R, sm] 95 _ _ rfl rfl rfl rfl rfl (by kernel_rfl) hone (fun wA hA fA => ?_)
            simp only [List.set_cons_zero, List.set_cons_succ] at hA
            have HS := Lib.hid hA; clear hA fA HS5
            simp only [Act.put, List.setIfInBounds_toArray, List.set_cons_zero, List.set_cons_succ]
            go_wp2_with fail
            repeat ((first | refine wpSegs_soft ?_ | refine wpSegs_pure ?_ | refine wpSegs_here ?_); (repeat (first | go_big_quiet_step (fail) | quiet_step (fail))); refine wpQuiet_nil ?_)
            refine wpSegs_done ?_
            have hB := HS.out.blk 3 rfl
            have r1 := (hB.cell 1).trans (HRF.out.cb _ _ _ _)
            have r6 := (hB.cell 6).trans (HRF.out.nmd _ _ _ _)
            have r7 := (hB.cell 7).trans (HRF.out.lmb _ _ _ _)
            have r10 := (hB.cell 10).trans (HRF.out.top _ _ _ _)
            have r11 := (hB.cell 11).trans (HRF.out.lim _ _ _ _)
            have rl := hB.lt
            have rz := hB.froz
            generalize P.rp1 R qk (at_ c 13 tj 0) y = qm at *
            go_wp2_with (refine wpList_store_cell HS.out 3 rfl 10 (.int .i64 (tj + 1)) 3 _ _ rfl rfl rfl rfl (by rw [HRF.out.len]; decide) (by kernel_rfl) rfl (fun wA hA _ => ?_); simp only [List.set_cons_zero, List.set_cons_succ, HRF.out.stop] at hA; have HA3 := Lib.hid hA; clear hA)
            clear r1 r6 r7 r10 r11 rl rz hB
            go_roundg (n - (j + 1))
            case measure => omega
            case rel => exact ⟨j + 1, (tj + 1), nl, sm, qm, by omega, by go_num, ⟨by omega, by omega⟩, by omega, HG2.out, (HA3).out⟩
          · rw [if_neg ht2] at hG
            have HG2 := Lib.hid hG
            have et : decide (tj < c.b) = false := by simpa using ht2
            clear hG hp3
            -- tumbler/tumblerref10.Settle 11: function and region, HAT.out _ 11 y: where, sj: sv, qj: q, sk: sv', (RPf wt wl tj nl): RP, (at_ c 11 y 0): the place, 0: the value
            have hmd := HRF.out.pre _ _ _ _ _ _ (HS.out.blk 3 rfl)
            have hsd := (HS.out.blk 2 rfl).drew
            refine wp_region_fr [(1, [0, 1, 2, 3, 4]), (2, [5]), (3, [6]), (3, [7])] [] (by kernel_rfl) (by kernel_rfl) ?_
            simp only [theOps, nthOp, List.map_cons, List.map_nil, Array.getD_eq_getD_getElem?, List.getElem?_toArray, List.getElem?_cons_succ, List.getElem?_cons_zero, Option.getD_some]
            refine wpSegs_soft ?_
            repeat (first | (refine wpQuiet_load_mid 95 _ _ 0 [.int .i64 R, sj] _ rfl rfl rfl (rangeAt_after hsd (by simp <;> omega)) Try.underlying95 rfl (by kernel_rfl) ?_; simp only [Act.put, List.setIfInBounds_toArray, List.set_cons_zero, List.set_cons_succ]) | (refine wpQuiet_load_mid 24 _ _ 0 (cgL c) _ rfl rfl rfl (rangeAt_pre hmd (by simp <;> omega)) Try.underlying24 rfl (by kernel_rfl) ?_; simp only [Act.put, List.setIfInBounds_toArray, List.set_cons_zero, List.set_cons_succ]) | go_big_quiet_step (fail) | quiet_step (fail))
            refine wpQuiet_nil ?_
            refine wpSegs_keep ?_
            go_wp2_with fail
            refine (HAT.out _ 11 y).mono ?_
            rintro e w4 ⟨rfl, hf⟩
            have HF := Lib.hid hf
            clear r1 r6 r7 r10 r11 rl rz hB
            have HS := Lib.hid (HS.out.drew.fr0 hf); clear hf hmd hsd
            have hB := HS.out.blk 3 rfl
            have r1 := (hB.cell 1).trans (HRF.out.cb _ _ _ _)
            have r6 := (hB.cell 6).trans (HRF.out.nmd _ _ _ _)
            have r7 := (hB.cell 7).trans (HRF.out.lmb _ _ _ _)
            have r10 := (hB.cell 10).trans (HRF.out.top _ _ _ _)
            have r11 := (hB.cell 11).trans (HRF.out.lim _ _ _ _)
            have rl := hB.lt
            have rz := hB.froz
            go_wp2_with fail
            refine ⟨⟨⟨_, (by exact HF.out)⟩, rfl⟩, ?_⟩
            repeat ((first | refine wpSegs_soft ?_ | refine wpSegs_pure ?_ | refine wpSegs_here ?_); (repeat (first | go_big_quiet_step (fail) | quiet_step (fail))); refine wpQuiet_nil ?_)
            refine wpSegs_hard ?_
            go_wp2_with fail
            clear r1 r6 r7 r10 r11 rl rz hB
            refine (rput10_sep R sj qj (at_ c 11 y 0) 0 (by omega) hR (HS.out.pull 4 rfl)).mono ?_
            rintro e w5 ⟨sk, rfl, h5⟩
            have h6 : Sep w0 w5 (blkT (w.heap.size + 1 + 1 + 1) 95 [.int .i64 0, .slice none 0 0] :: blkT (w.heap.size + 1 + 1) 65 [.int .i64 0, .int .i64 0, .int .i64 0, .int .i64 0, .int .u64 0, .int .u64 0, .slice none 0 0, .slice none 0 0, .int .i64 0, .int .i64 0, .int .i64 0, .int .i64 0] :: blkT (w.heap.size + 1) 95 [.int .i64 R, sj] :: blkT w.heap.size 65 (RPf wt wl tj nl) :: refT sk (P.rp1 R qj (at_ c 11 y 0) 0) :: Rs) := (((h5.pull 4 rfl).pull 4 rfl).pull 4 rfl).pull 4 rfl
            clear h5
            have hone := HSV.out _ _ _ _ 4 h6 rfl
            have HS5 := Lib.hid h6; clear h6
            go_wp2_with fail
            refine wpSegs_hard ?_
            refine wpList_store_sep HS5.out 2 rfl [.int .i64 R, sk] 95 _ _ rfl rfl rfl rfl rfl (by kernel_rfl) hone (fun wA hA fA => ?_)
            simp only [List.set_cons_zero, List.set_cons_succ] at hA
            have HS := Lib.hid hA; clear hA fA HS5
            simp only [Act.put, List.setIfInBounds_toArray, List.set_cons_zero, List.set_cons_succ]
            go_wp2_with fail
            repeat ((first | refine wpSegs_soft ?_ | refine wpSegs_pure ?_ | refine wpSegs_here ?_); (repeat (first | go_big_quiet_step (fail) | quiet_step (fail))); refine wpQuiet_nil ?_)
            refine wpSegs_done ?_
            have hB := HS.out.blk 3 rfl
            have r1 := (hB.cell 1).trans (HRF.out.cb _ _ _ _)
            have r6 := (hB.cell 6).trans (HRF.out.nmd _ _ _ _)
            have r7 := (hB.cell 7).trans (HRF.out.lmb _ _ _ _)
            have r10 := (hB.cell 10).trans (HRF.out.top _ _ _ _)
            have r11 := (hB.cell 11).trans (HRF.out.lim _ _ _ _)
            have rl := hB.lt
            have rz := hB.froz
            generalize P.rp1 R qj (at_ c 11 y 0) 0 = qk at *
            go_wp2_with fail
            clear r1 r6 r7 r10 r11 rl rz hB
            go_roundg (n - (j + 1))
            case measure => omega
            case rel => exact ⟨j + 1, tj, nl, sk, qk, by omega, by go_num, ⟨by omega, by omega⟩, by omega, HG2.out, (HS).out⟩
    · obtain rfl : j = n := by omega
      rw [List.drop_eq_nil_of_le (by rw [HNN.out]; exact Nat.le_refl _)] at HG
      have hF : FIN = (tj, nl, qj) := HG.out.symm
      have HF0 := Lib.hid hF
      clear hF
      have hB := HS.out.blk 3 rfl
      have r1 := (hB.cell 1).trans (HRF.out.cb _ _ _ _)
      have r6 := (hB.cell 6).trans (HRF.out.nmd _ _ _ _)
      have r7 := (hB.cell 7).trans (HRF.out.lmb _ _ _ _)
      have r10 := (hB.cell 10).trans (HRF.out.top _ _ _ _)
      have r11 := (hB.cell 11).trans (HRF.out.lim _ _ _ _)
      have rl := hB.lt
      have rz := hB.froz
      go_wp2_with (refine wpList_store_cell HS.out 3 rfl 7 (.slice none 0 0) 63 _ _ rfl rfl rfl rfl (by rw [HRF.out.len]; decide) (by kernel_rfl) rfl (fun wA hA _ => ?_); simp only [List.set_cons_zero, List.set_cons_succ, HNIL.out] at hA; have HA3 := Lib.hid hA; clear hA)
      clear r1 r6 r7 r10 r11 rl rz hB
      have HS := HA3
      have HRF := HRN
      have HONE := HONEN
      have hB := HS.out.blk 3 rfl
      have r1 := (hB.cell 1).trans (HRF.out.cb _ _ _ _)
      have r6 := (hB.cell 6).trans (HRF.out.nmd _ _ _ _)
      have r7 := (hB.cell 7).trans (HRF.out.lmb _ _ _ _)
      have r10 := (hB.cell 10).trans (HRF.out.top _ _ _ _)
      have r11 := (hB.cell 11).trans (HRF.out.lim _ _ _ _)
      have rl := hB.lt
      have rz := hB.froz
      -- tumbler/tumblerref10.Settle 16: function and region, 48: the function, sj: sv, RPn wt wl tj nl: RP
      clear r1 r6 r7 r10 r11 rl rz hB
      have hpd := (HS.out.blk 3 rfl).drew
      have hsd := (HS.out.blk 2 rfl).drew
      have hlen : (RPn wt wl tj nl).length = 12 := HRF.out.len _ _ _ _
      have honeP : ∀ u ∈ (RPn wt wl tj nl), u.oneCell' = true := HONE.out _ _ _ _
      have hone := HSV.out _ _ _ _ 4 HS.out rfl
      refine wp_region_fr [(1, [0, 1]), (2, [2]), (3, [3])] [w.heap.size + 1 + 1] (by kernel_rfl) (by kernel_rfl) ?_
      simp only [theOps, nthOp, List.map_cons, List.map_nil, Array.getD_eq_getD_getElem?, List.getElem?_toArray, List.getElem?_cons_succ, List.getElem?_cons_zero, Option.getD_some]
      refine wpSegs_soft ?_
      repeat (first | (refine wpQuiet_load_mid 95 _ _ 0 [.int .i64 R, sj] _ rfl rfl rfl (rangeAt_after hsd (by simp <;> omega)) Try.underlying95 rfl (by kernel_rfl) ?_; simp only [Act.put, List.setIfInBounds_toArray, List.set_cons_zero, List.set_cons_succ]) | (refine wpQuiet_load_mid 65 _ _ 0 (RPn wt wl tj nl) _ rfl rfl rfl (rangeAt_after hpd (by simp <;> omega)) Try.underlying65 rfl (by rw [hlen]; kernel_rfl) ?_; simp only [Act.put, List.setIfInBounds_toArray, List.set_cons_zero, List.set_cons_succ]) | go_big_quiet_step (fail) | quiet_step (fail))
      refine wpQuiet_nil ?_
      refine wpSegs_keep ?_
      refine wpList_store_sep HS.out.drew 1 rfl (RPn wt wl tj nl) 65 _ _ rfl rfl rfl rfl (by rw [hlen]; rfl) (by rw [hlen]; kernel_rfl) honeP (fun wC hC fC => ?_)
      simp only [List.set_cons_zero, List.set_cons_succ] at hC
      have HC := Lib.hid hC; have HF := Lib.hid fC
      clear hC fC
      go_wp2_with fail
      refine ⟨⟨⟨_, (by exact HF.out)⟩, rfl⟩, ?_⟩
      refine wpSegs_hard ?_
      refine wpList_store_sep HC.out 0 rfl [.int .i64 R, sj] 95 _ _ rfl rfl rfl rfl rfl (by kernel_rfl) hone (fun wD hD _ => ?_)
      simp only [List.set_cons_zero, List.set_cons_succ] at hD
      have HDD := Lib.hid hD; clear hD
      go_wp2_with fail
      refine wpSegs_done ?_
      go_wp2_with fail
      exact bodyPost_ret (v := .tuple #[.agg (RPn wt wl tj nl).toArray, .agg [Value.int .i64 R, sj].toArray]) (res_cell_cell Try.results48 rfl rfl (HDD.out.blk 1 rfl).range Try.underlying65 rfl (by rw [hlen]; kernel_rfl) (HDD.out.blk 0 rfl).range Try.underlying95 rfl (by kernel_rfl)) rfl ⟨_, by rw [HF0.out], by rw [HF0.out]; exact HDD.out.tail.tail.tail.tail⟩
end Go.Proofs.Ytccioehckfdjdaa
