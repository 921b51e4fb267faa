/- The walk of What: what stands at a place. -/
import Derived.Test.YtccioehckfdjdaaYat
set_option linter.unusedSimpArgs false
set_option linter.unusedVariables false
namespace Go.Proofs.Ytccioehckfdjdaa
open Go.RowKit Go.Tum Go.Tum.Y

theorem msize_cs (w : World) (cs : List Value) (s : Int) (hsz : cs.length = 24) (hs : cs[23]? = some (.int .i64 s)) : Calls Try.prog 114 #[.agg cs.toArray] w fun e w' => e = .returned (.int .i64 s) ∧ Fr [] w w' := by
  have hm := Blk.new w 31 cs
  have c0 := (hm.cell 23).trans hs
  clear hm hs
  go_enter Try.func114, Try.ntmps114
  go_wp2
  go_ret
  exact ⟨rfl, (Fr.refl [] _).alloc _⟩
set_option maxHeartbeats 1000000 in
theorem what_out1 (w : World) (c : Cfg) (p : Int) (d0 : decide (p < 0) = true) : Calls Try.prog 58 #[mapV c, .int .i64 p] w fun e w' => e = .returned (.tuple #[.int .i64 (-1), .int .i64 0, .int .i64 0]) ∧ Fr [] w w' := by
  unfold mapV at *
  generalize mapCells c = cs at *
  go_enter Try.func58, Try.ntmps58
  go_wp2
  go_ret3
  exact ⟨rfl, (Fr.refl [] _).alloc _⟩
set_option maxHeartbeats 1000000 in
theorem what_out2 (w : World) (c : Cfg) (p : Int) (d0 : decide (p < 0) = false) (d1 : decide (p ≥ size c) = true) : Calls Try.prog 58 #[mapV c, .int .i64 p] w fun e w' => e = .returned (.tuple #[.int .i64 (-1), .int .i64 0, .int .i64 0]) ∧ Fr [] w w' := by
  have HZ := Lib.hid (fun w => msize_cs w (mapCells c) (size c) rfl rfl)
  have hm := Blk.new w 31 (mapCells c)
  have hsz : (mapCells c).length = 24 := rfl
  have HM := Lib.hid hm; clear hm
  unfold mapV at *
  generalize mapCells c = cs at *
  generalize size c = s at *
  go_enter Try.func58, Try.ntmps58
  go_wp2_with (refine wpList_load_any 31 _ rfl rfl _ 0 rfl cs _ HM.out.range Try.underlying31 rfl (by rw [hsz]; kernel_rfl) ?_)
  refine (HZ.out _).mono ?_
  rintro e w1 ⟨rfl, hf⟩
  have HM1 := Lib.hid (HM.out.fr hf (by simp))
  have HF := Lib.hid (((Fr.refl [] w).alloc _).trans hf); clear hf
  go_wp2_with fail
  go_ret3
  exact ⟨rfl, HF.out⟩
set_option maxHeartbeats 1000000 in
theorem what_0 (w : World) (c : Cfg) (d0 : decide ((0 : Int) ≥ size c) = false) : Calls Try.prog 58 #[mapV c, .int .i64 0] w fun e w' => e = .returned (.tuple #[.int .i64 0, .int .i64 0, .int .i64 0]) ∧ Fr [] w w' := by
  have HZ := Lib.hid (fun w => msize_cs w (mapCells c) (size c) rfl rfl)
  have hm := Blk.new w 31 (mapCells c)
  have hsz : (mapCells c).length = 24 := rfl
  have HM := Lib.hid hm; clear hm
  unfold mapV at *
  generalize mapCells c = cs at *
  generalize size c = s at *
  go_enter Try.func58, Try.ntmps58
  go_wp2_with (refine wpList_load_any 31 _ rfl rfl _ 0 rfl cs _ HM.out.range Try.underlying31 rfl (by rw [hsz]; kernel_rfl) ?_)
  refine (HZ.out _).mono ?_
  rintro e w1 ⟨rfl, hf⟩
  have HM1 := Lib.hid (HM.out.fr hf (by simp))
  have HF := Lib.hid (((Fr.refl [] w).alloc _).trans hf); clear hf
  go_wp2_with fail
  go_ret3
  exact ⟨rfl, HF.out⟩
set_option maxHeartbeats 1000000 in
theorem what_tag (w : World) (c : Cfg) (p i r : Int) (h : Ok c) (hr : r = 0 ∨ r = 1 ∨ r = 2) (hi : 0 ≤ i) (hp : p = fTag c + (3 * i + r)) (h2 : p < fRoot c) : Calls Try.prog 58 #[mapV c, .int .i64 p] w fun e w' => e = .returned (.tuple #[.int .i64 (7 + r), .int .i64 i, .int .i64 0]) ∧ Fr [] w w' := by
  have hb := bds h
  have h1 := hb.tag
  have h3 : fRoot c ≤ 17000 := by have := hb.root; have := h.t8; omega
  have h4 : fRoot c ≤ size c := by
    have := hb.life; have := hb.top; have := hb.stack; have := hb.lim; have := hb.limbo; have := hb.word; have := hb.size_; have := limit_pos h; have := h.b1; omega
  have d0 : decide (p < 0) = false := by simp; omega
  have d1 : decide (p ≥ size c) = false := by simp; omega
  have d2 : (p == (0 : Int)) = false := by simp; omega
  have d3 : decide (p < fTag c) = false := by simp; omega
  have d4 : decide (p < fRoot c) = true := by simp; omega
  obtain ⟨q, hq⟩ : ∃ q, q = 3 * i + r := ⟨_, rfl⟩
  have e0 : p - fTag c = q := by omega
  have bq : 0 ≤ q ∧ q ≤ 17000 := by omega
  have bi : 0 ≤ i ∧ i ≤ 17000 := by omega
  have br : 0 ≤ r ∧ r ≤ 2 := by omega
  have e1 : Int.tdiv q 3 = i := by rw [Int.tdiv_eq_ediv_of_nonneg (by omega)]; omega
  have e2 : Int.tmod q 3 = r := by rw [Int.tmod_eq_emod_of_nonneg (by omega)]; omega
  clear hq
  have HZ := Lib.hid (fun w => msize_cs w (mapCells c) (size c) rfl rfl)
  have hm := Blk.new w 31 (mapCells c)
  have hsz : (mapCells c).length = 24 := rfl
  have HM := Lib.hid hm; clear hm
  have g : (mapCells c)[13]? = some (.int .i64 (fTag c)) := rfl
  have g2 : (mapCells c)[16]? = some (.int .i64 (fRoot c)) := rfl
  unfold mapV at *
  generalize mapCells c = cs at *
  generalize size c = s at *
  generalize fTag c = F at *
  generalize fRoot c = F2 at *
  clear h hb hp h2 hr hi
  go_enter Try.func58, Try.ntmps58
  go_wp2_with (refine wpList_load_any 31 _ rfl rfl _ 0 rfl cs _ HM.out.range Try.underlying31 rfl (by rw [hsz]; kernel_rfl) ?_)
  refine (HZ.out _).mono ?_
  rintro e w1 ⟨rfl, hf⟩
  have HM1 := Lib.hid (HM.out.fr hf (by simp))
  have HF := Lib.hid (((Fr.refl [] w).alloc _).trans hf); clear hf
  have c13 := (HM1.out.cell 13).trans g
  have c16 := (HM1.out.cell 16).trans g2
  go_wp2_with fail
  go_ret3
  exact ⟨rfl, HF.out⟩
set_option maxHeartbeats 2000000 in
theorem what_10 (w : World) (c : Cfg) (p i k : Int) (h : Ok c) (hi : 0 ≤ i) (hk : 0 ≤ k ∧ k < 1) (hp : p = fRoot c + (i * 1 + k)) (h2 : p < fLife c) : Calls Try.prog 58 #[mapV c, .int .i64 p] w fun e w' => e = .returned (.tuple #[.int .i64 10, .int .i64 i, .int .i64 k]) ∧ Fr [] w w' := by
  have hb := bds h
  have h1 := hb.tag
  have hz := size_bd h
  have b1 := hb.root; have b2 := hb.life; have b3 := hb.top; have b4 := hb.stack; have b5 := hb.lim; have b6 := hb.limbo; have b7 := hb.word; have b8 := hb.size_; have b9 := limit_pos h; have b10 := h.b1; have b11 := h.t1
  have d0 : decide (p < 0) = false := by simp; omega
  have d1 : decide (p ≥ size c) = false := by simp; omega
  have d2 : (p == (0 : Int)) = false := by simp; omega
  have d3 : decide (p < fTag c) = false := by simp; omega
  have d4 : decide (p < fRoot c) = false := by simp; omega
  have t16 : decide (p < fWord c) = true := by simp; omega
  have t15 : decide (p < fLimbo c) = true := by simp; omega
  have t14 : decide (p < fLim c) = true := by simp; omega
  have t13 : decide (p < fStack c) = true := by simp; omega
  have t12 : decide (p < fTop c) = true := by simp; omega
  have t11 : decide (p < fLife c) = true := by simp; omega
  obtain ⟨q, hq⟩ : ∃ q, q = i * 1 + k := ⟨_, rfl⟩
  have e0 : p - fRoot c = q := by omega
  have bq : 0 ≤ q ∧ q ≤ 19000 := by omega
  have bi : 0 ≤ i ∧ i ≤ 19000 := by omega
  have br : 0 ≤ k ∧ k ≤ 8 := by omega
  have e1 : Int.tdiv q 1 = i := by rw [Int.tdiv_eq_ediv_of_nonneg (by omega)]; omega
  have e2 : Int.tmod q 1 = k := by rw [Int.tmod_eq_emod_of_nonneg (by omega)]; omega
  have HC := Lib.hid (fun w => counts_any w c h 10)
  rw [show eachP c 10 = 1 by simp [eachP, each]] at HC
  clear hq hp hi hk h2 b1 b2 b3 b4 b5 b6 b7 b8 b9 b10 b11
  have HZ := Lib.hid (fun w => msize_cs w (mapCells c) (size c) rfl rfl)
  have hm := Blk.new w 31 (mapCells c)
  have hsz : (mapCells c).length = 24 := rfl
  have HM := Lib.hid hm; clear hm
  have g13 : (mapCells c)[13]? = some (.int .i64 (fTag c)) := rfl
  have g16 : (mapCells c)[16]? = some (.int .i64 (fRoot c)) := rfl
  have g17 : (mapCells c)[17]? = some (.int .i64 (fLife c)) := rfl
  have g18 : (mapCells c)[18]? = some (.int .i64 (fTop c)) := rfl
  have g19 : (mapCells c)[19]? = some (.int .i64 (fStack c)) := rfl
  have g20 : (mapCells c)[20]? = some (.int .i64 (fLim c)) := rfl
  have g21 : (mapCells c)[21]? = some (.int .i64 (fLimbo c)) := rfl
  have g22 : (mapCells c)[22]? = some (.int .i64 (fWord c)) := rfl
  clear h hb
  unfold mapV at *
  generalize mapCells c = cs at *
  generalize size c = s, fTag c = F7, fRoot c = F10, fLife c = F11, fTop c = F12, fStack c = F13, fLim c = F14, fLimbo c = F15, fWord c = F16, cnt c 10 = n at *
  go_enter Try.func58, Try.ntmps58
  go_wp2_with (refine wpList_load_any 31 _ rfl rfl _ 0 rfl cs _ HM.out.range Try.underlying31 rfl (by rw [hsz]; kernel_rfl) ?_)
  refine (HZ.out _).mono ?_
  rintro e w1 ⟨rfl, hf⟩
  have HM1 := Lib.hid (HM.out.fr hf (by simp))
  have HF := Lib.hid (((Fr.refl [] w).alloc _).trans hf); clear hf
  have c13 := (HM1.out.cell 13).trans g13
  have c16 := (HM1.out.cell 16).trans g16
  have c17 := (HM1.out.cell 17).trans g17
  have c18 := (HM1.out.cell 18).trans g18
  have c19 := (HM1.out.cell 19).trans g19
  have c20 := (HM1.out.cell 20).trans g20
  have c21 := (HM1.out.cell 21).trans g21
  have c22 := (HM1.out.cell 22).trans g22
  go_wp2_with fail
  refine wp_loop_rounds 7 ?_
  iterate 7 ((try rw [rounds_succ]); go_wp2_with (refine wpList_load_any 31 _ rfl rfl _ 0 rfl cs _ HM1.out.range Try.underlying31 rfl (by rw [hsz]; kernel_rfl) ?_))
  refine (HC.out _).mono ?_
  rintro e w2 ⟨rfl, hf⟩
  have HM2 := Lib.hid (HM1.out.fr hf (by simp))
  have HF2 := Lib.hid (HF.out.trans hf); clear hf
  have c22 := (HM2.out.cell 16).trans g16
  go_wp2_with fail
  refine wp_region_fr [(0, [0, 1, 2, 3, 4, 5, 6, 7, 8, 9])] [] (by kernel_rfl) (by kernel_rfl) ?_
  simp only [theOps, nthOp, List.map_cons, List.map_nil, Array.getD_eq_getD_getElem?, List.getElem?_toArray, List.getElem?_cons_succ, List.getElem?_cons_zero, Option.getD_some]
  repeat ((first | refine wpSegs_soft ?_ | refine wpSegs_pure ?_ | refine wpSegs_here ?_); (repeat (first | go_big_quiet_step (fail) | quiet_step (fail))); refine wpQuiet_nil ?_)
  refine wpSegs_done ?_
  go_wp2_with fail
  go_ret3
  exact ⟨rfl, HF2.out.drew⟩
set_option maxHeartbeats 2000000 in
theorem what_11 (w : World) (c : Cfg) (p i k : Int) (h : Ok c) (hi : 0 ≤ i) (hk : 0 ≤ k ∧ k < 1) (hp : p = fLife c + (i * 1 + k)) (h2 : p < fTop c) : Calls Try.prog 58 #[mapV c, .int .i64 p] w fun e w' => e = .returned (.tuple #[.int .i64 11, .int .i64 i, .int .i64 k]) ∧ Fr [] w w' := by
  have hb := bds h
  have h1 := hb.tag
  have hz := size_bd h
  have b1 := hb.root; have b2 := hb.life; have b3 := hb.top; have b4 := hb.stack; have b5 := hb.lim; have b6 := hb.limbo; have b7 := hb.word; have b8 := hb.size_; have b9 := limit_pos h; have b10 := h.b1; have b11 := h.t1
  have d0 : decide (p < 0) = false := by simp; omega
  have d1 : decide (p ≥ size c) = false := by simp; omega
  have d2 : (p == (0 : Int)) = false := by simp; omega
  have d3 : decide (p < fTag c) = false := by simp; omega
  have d4 : decide (p < fRoot c) = false := by simp; omega
  have t16 : decide (p < fWord c) = true := by simp; omega
  have t15 : decide (p < fLimbo c) = true := by simp; omega
  have t14 : decide (p < fLim c) = true := by simp; omega
  have t13 : decide (p < fStack c) = true := by simp; omega
  have t12 : decide (p < fTop c) = true := by simp; omega
  have t11 : decide (p < fLife c) = false := by simp; omega
  obtain ⟨q, hq⟩ : ∃ q, q = i * 1 + k := ⟨_, rfl⟩
  have e0 : p - fLife c = q := by omega
  have bq : 0 ≤ q ∧ q ≤ 19000 := by omega
  have bi : 0 ≤ i ∧ i ≤ 19000 := by omega
  have br : 0 ≤ k ∧ k ≤ 8 := by omega
  have e1 : Int.tdiv q 1 = i := by rw [Int.tdiv_eq_ediv_of_nonneg (by omega)]; omega
  have e2 : Int.tmod q 1 = k := by rw [Int.tmod_eq_emod_of_nonneg (by omega)]; omega
  have HC := Lib.hid (fun w => counts_any w c h 11)
  rw [show eachP c 11 = 1 by simp [eachP, each]] at HC
  clear hq hp hi hk h2 b1 b2 b3 b4 b5 b6 b7 b8 b9 b10 b11
  have HZ := Lib.hid (fun w => msize_cs w (mapCells c) (size c) rfl rfl)
  have hm := Blk.new w 31 (mapCells c)
  have hsz : (mapCells c).length = 24 := rfl
  have HM := Lib.hid hm; clear hm
  have g13 : (mapCells c)[13]? = some (.int .i64 (fTag c)) := rfl
  have g16 : (mapCells c)[16]? = some (.int .i64 (fRoot c)) := rfl
  have g17 : (mapCells c)[17]? = some (.int .i64 (fLife c)) := rfl
  have g18 : (mapCells c)[18]? = some (.int .i64 (fTop c)) := rfl
  have g19 : (mapCells c)[19]? = some (.int .i64 (fStack c)) := rfl
  have g20 : (mapCells c)[20]? = some (.int .i64 (fLim c)) := rfl
  have g21 : (mapCells c)[21]? = some (.int .i64 (fLimbo c)) := rfl
  have g22 : (mapCells c)[22]? = some (.int .i64 (fWord c)) := rfl
  clear h hb
  unfold mapV at *
  generalize mapCells c = cs at *
  generalize size c = s, fTag c = F7, fRoot c = F10, fLife c = F11, fTop c = F12, fStack c = F13, fLim c = F14, fLimbo c = F15, fWord c = F16, cnt c 11 = n at *
  go_enter Try.func58, Try.ntmps58
  go_wp2_with (refine wpList_load_any 31 _ rfl rfl _ 0 rfl cs _ HM.out.range Try.underlying31 rfl (by rw [hsz]; kernel_rfl) ?_)
  refine (HZ.out _).mono ?_
  rintro e w1 ⟨rfl, hf⟩
  have HM1 := Lib.hid (HM.out.fr hf (by simp))
  have HF := Lib.hid (((Fr.refl [] w).alloc _).trans hf); clear hf
  have c13 := (HM1.out.cell 13).trans g13
  have c16 := (HM1.out.cell 16).trans g16
  have c17 := (HM1.out.cell 17).trans g17
  have c18 := (HM1.out.cell 18).trans g18
  have c19 := (HM1.out.cell 19).trans g19
  have c20 := (HM1.out.cell 20).trans g20
  have c21 := (HM1.out.cell 21).trans g21
  have c22 := (HM1.out.cell 22).trans g22
  go_wp2_with fail
  refine wp_loop_rounds 6 ?_
  iterate 6 ((try rw [rounds_succ]); go_wp2_with (refine wpList_load_any 31 _ rfl rfl _ 0 rfl cs _ HM1.out.range Try.underlying31 rfl (by rw [hsz]; kernel_rfl) ?_))
  refine (HC.out _).mono ?_
  rintro e w2 ⟨rfl, hf⟩
  have HM2 := Lib.hid (HM1.out.fr hf (by simp))
  have HF2 := Lib.hid (HF.out.trans hf); clear hf
  have c22 := (HM2.out.cell 17).trans g17
  go_wp2_with fail
  refine wp_region_fr [(0, [0, 1, 2, 3, 4, 5, 6, 7, 8, 9])] [] (by kernel_rfl) (by kernel_rfl) ?_
  simp only [theOps, nthOp, List.map_cons, List.map_nil, Array.getD_eq_getD_getElem?, List.getElem?_toArray, List.getElem?_cons_succ, List.getElem?_cons_zero, Option.getD_some]
  repeat ((first | refine wpSegs_soft ?_ | refine wpSegs_pure ?_ | refine wpSegs_here ?_); (repeat (first | go_big_quiet_step (fail) | quiet_step (fail))); refine wpQuiet_nil ?_)
  refine wpSegs_done ?_
  go_wp2_with fail
  go_ret3
  exact ⟨rfl, HF2.out.drew⟩
set_option maxHeartbeats 2000000 in
theorem what_12 (w : World) (c : Cfg) (p i k : Int) (h : Ok c) (hi : 0 ≤ i) (hk : 0 ≤ k ∧ k < 1) (hp : p = fTop c + (i * 1 + k)) (h2 : p < fStack c) : Calls Try.prog 58 #[mapV c, .int .i64 p] w fun e w' => e = .returned (.tuple #[.int .i64 12, .int .i64 i, .int .i64 k]) ∧ Fr [] w w' := by
  have hb := bds h
  have h1 := hb.tag
  have hz := size_bd h
  have b1 := hb.root; have b2 := hb.life; have b3 := hb.top; have b4 := hb.stack; have b5 := hb.lim; have b6 := hb.limbo; have b7 := hb.word; have b8 := hb.size_; have b9 := limit_pos h; have b10 := h.b1; have b11 := h.t1
  have d0 : decide (p < 0) = false := by simp; omega
  have d1 : decide (p ≥ size c) = false := by simp; omega
  have d2 : (p == (0 : Int)) = false := by simp; omega
  have d3 : decide (p < fTag c) = false := by simp; omega
  have d4 : decide (p < fRoot c) = false := by simp; omega
  have t16 : decide (p < fWord c) = true := by simp; omega
  have t15 : decide (p < fLimbo c) = true := by simp; omega
  have t14 : decide (p < fLim c) = true := by simp; omega
  have t13 : decide (p < fStack c) = true := by simp; omega
  have t12 : decide (p < fTop c) = false := by simp; omega
  have t11 : decide (p < fLife c) = false := by simp; omega
  obtain ⟨q, hq⟩ : ∃ q, q = i * 1 + k := ⟨_, rfl⟩
  have e0 : p - fTop c = q := by omega
  have bq : 0 ≤ q ∧ q ≤ 19000 := by omega
  have bi : 0 ≤ i ∧ i ≤ 19000 := by omega
  have br : 0 ≤ k ∧ k ≤ 8 := by omega
  have e1 : Int.tdiv q 1 = i := by rw [Int.tdiv_eq_ediv_of_nonneg (by omega)]; omega
  have e2 : Int.tmod q 1 = k := by rw [Int.tmod_eq_emod_of_nonneg (by omega)]; omega
  have HC := Lib.hid (fun w => counts_any w c h 12)
  rw [show eachP c 12 = 1 by simp [eachP, each]] at HC
  clear hq hp hi hk h2 b1 b2 b3 b4 b5 b6 b7 b8 b9 b10 b11
  have HZ := Lib.hid (fun w => msize_cs w (mapCells c) (size c) rfl rfl)
  have hm := Blk.new w 31 (mapCells c)
  have hsz : (mapCells c).length = 24 := rfl
  have HM := Lib.hid hm; clear hm
  have g13 : (mapCells c)[13]? = some (.int .i64 (fTag c)) := rfl
  have g16 : (mapCells c)[16]? = some (.int .i64 (fRoot c)) := rfl
  have g17 : (mapCells c)[17]? = some (.int .i64 (fLife c)) := rfl
  have g18 : (mapCells c)[18]? = some (.int .i64 (fTop c)) := rfl
  have g19 : (mapCells c)[19]? = some (.int .i64 (fStack c)) := rfl
  have g20 : (mapCells c)[20]? = some (.int .i64 (fLim c)) := rfl
  have g21 : (mapCells c)[21]? = some (.int .i64 (fLimbo c)) := rfl
  have g22 : (mapCells c)[22]? = some (.int .i64 (fWord c)) := rfl
  clear h hb
  unfold mapV at *
  generalize mapCells c = cs at *
  generalize size c = s, fTag c = F7, fRoot c = F10, fLife c = F11, fTop c = F12, fStack c = F13, fLim c = F14, fLimbo c = F15, fWord c = F16, cnt c 12 = n at *
  go_enter Try.func58, Try.ntmps58
  go_wp2_with (refine wpList_load_any 31 _ rfl rfl _ 0 rfl cs _ HM.out.range Try.underlying31 rfl (by rw [hsz]; kernel_rfl) ?_)
  refine (HZ.out _).mono ?_
  rintro e w1 ⟨rfl, hf⟩
  have HM1 := Lib.hid (HM.out.fr hf (by simp))
  have HF := Lib.hid (((Fr.refl [] w).alloc _).trans hf); clear hf
  have c13 := (HM1.out.cell 13).trans g13
  have c16 := (HM1.out.cell 16).trans g16
  have c17 := (HM1.out.cell 17).trans g17
  have c18 := (HM1.out.cell 18).trans g18
  have c19 := (HM1.out.cell 19).trans g19
  have c20 := (HM1.out.cell 20).trans g20
  have c21 := (HM1.out.cell 21).trans g21
  have c22 := (HM1.out.cell 22).trans g22
  go_wp2_with fail
  refine wp_loop_rounds 5 ?_
  iterate 5 ((try rw [rounds_succ]); go_wp2_with (refine wpList_load_any 31 _ rfl rfl _ 0 rfl cs _ HM1.out.range Try.underlying31 rfl (by rw [hsz]; kernel_rfl) ?_))
  refine (HC.out _).mono ?_
  rintro e w2 ⟨rfl, hf⟩
  have HM2 := Lib.hid (HM1.out.fr hf (by simp))
  have HF2 := Lib.hid (HF.out.trans hf); clear hf
  have c22 := (HM2.out.cell 18).trans g18
  go_wp2_with fail
  refine wp_region_fr [(0, [0, 1, 2, 3, 4, 5, 6, 7, 8, 9])] [] (by kernel_rfl) (by kernel_rfl) ?_
  simp only [theOps, nthOp, List.map_cons, List.map_nil, Array.getD_eq_getD_getElem?, List.getElem?_toArray, List.getElem?_cons_succ, List.getElem?_cons_zero, Option.getD_some]
  repeat ((first | refine wpSegs_soft ?_ | refine wpSegs_pure ?_ | refine wpSegs_here ?_); (repeat (first | go_big_quiet_step (fail) | quiet_step (fail))); refine wpQuiet_nil ?_)
  refine wpSegs_done ?_
  go_wp2_with fail
  go_ret3
  exact ⟨rfl, HF2.out.drew⟩
set_option maxHeartbeats 2000000 in
theorem what_13 (w : World) (c : Cfg) (p i k : Int) (h : Ok c) (hi : 0 ≤ i) (hk : 0 ≤ k ∧ k < 1) (hp : p = fStack c + (i * 1 + k)) (h2 : p < fLim c) : Calls Try.prog 58 #[mapV c, .int .i64 p] w fun e w' => e = .returned (.tuple #[.int .i64 13, .int .i64 i, .int .i64 k]) ∧ Fr [] w w' := by
  have hb := bds h
  have h1 := hb.tag
  have hz := size_bd h
  have b1 := hb.root; have b2 := hb.life; have b3 := hb.top; have b4 := hb.stack; have b5 := hb.lim; have b6 := hb.limbo; have b7 := hb.word; have b8 := hb.size_; have b9 := limit_pos h; have b10 := h.b1; have b11 := h.t1
  have d0 : decide (p < 0) = false := by simp; omega
  have d1 : decide (p ≥ size c) = false := by simp; omega
  have d2 : (p == (0 : Int)) = false := by simp; omega
  have d3 : decide (p < fTag c) = false := by simp; omega
  have d4 : decide (p < fRoot c) = false := by simp; omega
  have t16 : decide (p < fWord c) = true := by simp; omega
  have t15 : decide (p < fLimbo c) = true := by simp; omega
  have t14 : decide (p < fLim c) = true := by simp; omega
  have t13 : decide (p < fStack c) = false := by simp; omega
  have t12 : decide (p < fTop c) = false := by simp; omega
  have t11 : decide (p < fLife c) = false := by simp; omega
  obtain ⟨q, hq⟩ : ∃ q, q = i * 1 + k := ⟨_, rfl⟩
  have e0 : p - fStack c = q := by omega
  have bq : 0 ≤ q ∧ q ≤ 19000 := by omega
  have bi : 0 ≤ i ∧ i ≤ 19000 := by omega
  have br : 0 ≤ k ∧ k ≤ 8 := by omega
  have e1 : Int.tdiv q 1 = i := by rw [Int.tdiv_eq_ediv_of_nonneg (by omega)]; omega
  have e2 : Int.tmod q 1 = k := by rw [Int.tmod_eq_emod_of_nonneg (by omega)]; omega
  have HC := Lib.hid (fun w => counts_any w c h 13)
  rw [show eachP c 13 = 1 by simp [eachP, each]] at HC
  clear hq hp hi hk h2 b1 b2 b3 b4 b5 b6 b7 b8 b9 b10 b11
  have HZ := Lib.hid (fun w => msize_cs w (mapCells c) (size c) rfl rfl)
  have hm := Blk.new w 31 (mapCells c)
  have hsz : (mapCells c).length = 24 := rfl
  have HM := Lib.hid hm; clear hm
  have g13 : (mapCells c)[13]? = some (.int .i64 (fTag c)) := rfl
  have g16 : (mapCells c)[16]? = some (.int .i64 (fRoot c)) := rfl
  have g17 : (mapCells c)[17]? = some (.int .i64 (fLife c)) := rfl
  have g18 : (mapCells c)[18]? = some (.int .i64 (fTop c)) := rfl
  have g19 : (mapCells c)[19]? = some (.int .i64 (fStack c)) := rfl
  have g20 : (mapCells c)[20]? = some (.int .i64 (fLim c)) := rfl
  have g21 : (mapCells c)[21]? = some (.int .i64 (fLimbo c)) := rfl
  have g22 : (mapCells c)[22]? = some (.int .i64 (fWord c)) := rfl
  clear h hb
  unfold mapV at *
  generalize mapCells c = cs at *
  generalize size c = s, fTag c = F7, fRoot c = F10, fLife c = F11, fTop c = F12, fStack c = F13, fLim c = F14, fLimbo c = F15, fWord c = F16, cnt c 13 = n at *
  go_enter Try.func58, Try.ntmps58
  go_wp2_with (refine wpList_load_any 31 _ rfl rfl _ 0 rfl cs _ HM.out.range Try.underlying31 rfl (by rw [hsz]; kernel_rfl) ?_)
  refine (HZ.out _).mono ?_
  rintro e w1 ⟨rfl, hf⟩
  have HM1 := Lib.hid (HM.out.fr hf (by simp))
  have HF := Lib.hid (((Fr.refl [] w).alloc _).trans hf); clear hf
  have c13 := (HM1.out.cell 13).trans g13
  have c16 := (HM1.out.cell 16).trans g16
  have c17 := (HM1.out.cell 17).trans g17
  have c18 := (HM1.out.cell 18).trans g18
  have c19 := (HM1.out.cell 19).trans g19
  have c20 := (HM1.out.cell 20).trans g20
  have c21 := (HM1.out.cell 21).trans g21
  have c22 := (HM1.out.cell 22).trans g22
  go_wp2_with fail
  refine wp_loop_rounds 4 ?_
  iterate 4 ((try rw [rounds_succ]); go_wp2_with (refine wpList_load_any 31 _ rfl rfl _ 0 rfl cs _ HM1.out.range Try.underlying31 rfl (by rw [hsz]; kernel_rfl) ?_))
  refine (HC.out _).mono ?_
  rintro e w2 ⟨rfl, hf⟩
  have HM2 := Lib.hid (HM1.out.fr hf (by simp))
  have HF2 := Lib.hid (HF.out.trans hf); clear hf
  have c22 := (HM2.out.cell 19).trans g19
  go_wp2_with fail
  refine wp_region_fr [(0, [0, 1, 2, 3, 4, 5, 6, 7, 8, 9])] [] (by kernel_rfl) (by kernel_rfl) ?_
  simp only [theOps, nthOp, List.map_cons, List.map_nil, Array.getD_eq_getD_getElem?, List.getElem?_toArray, List.getElem?_cons_succ, List.getElem?_cons_zero, Option.getD_some]
  repeat ((first | refine wpSegs_soft ?_ | refine wpSegs_pure ?_ | refine wpSegs_here ?_); (repeat (first | go_big_quiet_step (fail) | quiet_step (fail))); refine wpQuiet_nil ?_)
  refine wpSegs_done ?_
  go_wp2_with fail
  go_ret3
  exact ⟨rfl, HF2.out.drew⟩
set_option maxHeartbeats 2000000 in
theorem what_14 (w : World) (c : Cfg) (p i k : Int) (h : Ok c) (hi : 0 ≤ i) (hk : 0 ≤ k ∧ k < 1) (hp : p = fLim c + (i * 1 + k)) (h2 : p < fLimbo c) : Calls Try.prog 58 #[mapV c, .int .i64 p] w fun e w' => e = .returned (.tuple #[.int .i64 14, .int .i64 i, .int .i64 k]) ∧ Fr [] w w' := by
  have hb := bds h
  have h1 := hb.tag
  have hz := size_bd h
  have b1 := hb.root; have b2 := hb.life; have b3 := hb.top; have b4 := hb.stack; have b5 := hb.lim; have b6 := hb.limbo; have b7 := hb.word; have b8 := hb.size_; have b9 := limit_pos h; have b10 := h.b1; have b11 := h.t1
  have d0 : decide (p < 0) = false := by simp; omega
  have d1 : decide (p ≥ size c) = false := by simp; omega
  have d2 : (p == (0 : Int)) = false := by simp; omega
  have d3 : decide (p < fTag c) = false := by simp; omega
  have d4 : decide (p < fRoot c) = false := by simp; omega
  have t16 : decide (p < fWord c) = true := by simp; omega
  have t15 : decide (p < fLimbo c) = true := by simp; omega
  have t14 : decide (p < fLim c) = false := by simp; omega
  have t13 : decide (p < fStack c) = false := by simp; omega
  have t12 : decide (p < fTop c) = false := by simp; omega
  have t11 : decide (p < fLife c) = false := by simp; omega
  obtain ⟨q, hq⟩ : ∃ q, q = i * 1 + k := ⟨_, rfl⟩
  have e0 : p - fLim c = q := by omega
  have bq : 0 ≤ q ∧ q ≤ 19000 := by omega
  have bi : 0 ≤ i ∧ i ≤ 19000 := by omega
  have br : 0 ≤ k ∧ k ≤ 8 := by omega
  have e1 : Int.tdiv q 1 = i := by rw [Int.tdiv_eq_ediv_of_nonneg (by omega)]; omega
  have e2 : Int.tmod q 1 = k := by rw [Int.tmod_eq_emod_of_nonneg (by omega)]; omega
  have HC := Lib.hid (fun w => counts_any w c h 14)
  rw [show eachP c 14 = 1 by simp [eachP, each]] at HC
  clear hq hp hi hk h2 b1 b2 b3 b4 b5 b6 b7 b8 b9 b10 b11
  have HZ := Lib.hid (fun w => msize_cs w (mapCells c) (size c) rfl rfl)
  have hm := Blk.new w 31 (mapCells c)
  have hsz : (mapCells c).length = 24 := rfl
  have HM := Lib.hid hm; clear hm
  have g13 : (mapCells c)[13]? = some (.int .i64 (fTag c)) := rfl
  have g16 : (mapCells c)[16]? = some (.int .i64 (fRoot c)) := rfl
  have g17 : (mapCells c)[17]? = some (.int .i64 (fLife c)) := rfl
  have g18 : (mapCells c)[18]? = some (.int .i64 (fTop c)) := rfl
  have g19 : (mapCells c)[19]? = some (.int .i64 (fStack c)) := rfl
  have g20 : (mapCells c)[20]? = some (.int .i64 (fLim c)) := rfl
  have g21 : (mapCells c)[21]? = some (.int .i64 (fLimbo c)) := rfl
  have g22 : (mapCells c)[22]? = some (.int .i64 (fWord c)) := rfl
  clear h hb
  unfold mapV at *
  generalize mapCells c = cs at *
  generalize size c = s, fTag c = F7, fRoot c = F10, fLife c = F11, fTop c = F12, fStack c = F13, fLim c = F14, fLimbo c = F15, fWord c = F16, cnt c 14 = n at *
  go_enter Try.func58, Try.ntmps58
  go_wp2_with (refine wpList_load_any 31 _ rfl rfl _ 0 rfl cs _ HM.out.range Try.underlying31 rfl (by rw [hsz]; kernel_rfl) ?_)
  refine (HZ.out _).mono ?_
  rintro e w1 ⟨rfl, hf⟩
  have HM1 := Lib.hid (HM.out.fr hf (by simp))
  have HF := Lib.hid (((Fr.refl [] w).alloc _).trans hf); clear hf
  have c13 := (HM1.out.cell 13).trans g13
  have c16 := (HM1.out.cell 16).trans g16
  have c17 := (HM1.out.cell 17).trans g17
  have c18 := (HM1.out.cell 18).trans g18
  have c19 := (HM1.out.cell 19).trans g19
  have c20 := (HM1.out.cell 20).trans g20
  have c21 := (HM1.out.cell 21).trans g21
  have c22 := (HM1.out.cell 22).trans g22
  go_wp2_with fail
  refine wp_loop_rounds 3 ?_
  iterate 3 ((try rw [rounds_succ]); go_wp2_with (refine wpList_load_any 31 _ rfl rfl _ 0 rfl cs _ HM1.out.range Try.underlying31 rfl (by rw [hsz]; kernel_rfl) ?_))
  refine (HC.out _).mono ?_
  rintro e w2 ⟨rfl, hf⟩
  have HM2 := Lib.hid (HM1.out.fr hf (by simp))
  have HF2 := Lib.hid (HF.out.trans hf); clear hf
  have c22 := (HM2.out.cell 20).trans g20
  go_wp2_with fail
  refine wp_region_fr [(0, [0, 1, 2, 3, 4, 5, 6, 7, 8, 9])] [] (by kernel_rfl) (by kernel_rfl) ?_
  simp only [theOps, nthOp, List.map_cons, List.map_nil, Array.getD_eq_getD_getElem?, List.getElem?_toArray, List.getElem?_cons_succ, List.getElem?_cons_zero, Option.getD_some]
  repeat ((first | refine wpSegs_soft ?_ | refine wpSegs_pure ?_ | refine wpSegs_here ?_); (repeat (first | go_big_quiet_step (fail) | quiet_step (fail))); refine wpQuiet_nil ?_)
  refine wpSegs_done ?_
  go_wp2_with fail
  go_ret3
  exact ⟨rfl, HF2.out.drew⟩
set_option maxHeartbeats 2000000 in
theorem what_15 (w : World) (c : Cfg) (p i k : Int) (h : Ok c) (hi : 0 ≤ i) (hk : 0 ≤ k ∧ k < 1) (hp : p = fLimbo c + (i * 1 + k)) (h2 : p < fWord c) : Calls Try.prog 58 #[mapV c, .int .i64 p] w fun e w' => e = .returned (.tuple #[.int .i64 15, .int .i64 i, .int .i64 k]) ∧ Fr [] w w' := by
  have hb := bds h
  have h1 := hb.tag
  have hz := size_bd h
  have b1 := hb.root; have b2 := hb.life; have b3 := hb.top; have b4 := hb.stack; have b5 := hb.lim; have b6 := hb.limbo; have b7 := hb.word; have b8 := hb.size_; have b9 := limit_pos h; have b10 := h.b1; have b11 := h.t1
  have d0 : decide (p < 0) = false := by simp; omega
  have d1 : decide (p ≥ size c) = false := by simp; omega
  have d2 : (p == (0 : Int)) = false := by simp; omega
  have d3 : decide (p < fTag c) = false := by simp; omega
  have d4 : decide (p < fRoot c) = false := by simp; omega
  have t16 : decide (p < fWord c) = true := by simp; omega
  have t15 : decide (p < fLimbo c) = false := by simp; omega
  have t14 : decide (p < fLim c) = false := by simp; omega
  have t13 : decide (p < fStack c) = false := by simp; omega
  have t12 : decide (p < fTop c) = false := by simp; omega
  have t11 : decide (p < fLife c) = false := by simp; omega
  obtain ⟨q, hq⟩ : ∃ q, q = i * 1 + k := ⟨_, rfl⟩
  have e0 : p - fLimbo c = q := by omega
  have bq : 0 ≤ q ∧ q ≤ 19000 := by omega
  have bi : 0 ≤ i ∧ i ≤ 19000 := by omega
  have br : 0 ≤ k ∧ k ≤ 8 := by omega
  have e1 : Int.tdiv q 1 = i := by rw [Int.tdiv_eq_ediv_of_nonneg (by omega)]; omega
  have e2 : Int.tmod q 1 = k := by rw [Int.tmod_eq_emod_of_nonneg (by omega)]; omega
  have HC := Lib.hid (fun w => counts_any w c h 15)
  rw [show eachP c 15 = 1 by simp [eachP, each]] at HC
  clear hq hp hi hk h2 b1 b2 b3 b4 b5 b6 b7 b8 b9 b10 b11
  have HZ := Lib.hid (fun w => msize_cs w (mapCells c) (size c) rfl rfl)
  have hm := Blk.new w 31 (mapCells c)
  have hsz : (mapCells c).length = 24 := rfl
  have HM := Lib.hid hm; clear hm
  have g13 : (mapCells c)[13]? = some (.int .i64 (fTag c)) := rfl
  have g16 : (mapCells c)[16]? = some (.int .i64 (fRoot c)) := rfl
  have g17 : (mapCells c)[17]? = some (.int .i64 (fLife c)) := rfl
  have g18 : (mapCells c)[18]? = some (.int .i64 (fTop c)) := rfl
  have g19 : (mapCells c)[19]? = some (.int .i64 (fStack c)) := rfl
  have g20 : (mapCells c)[20]? = some (.int .i64 (fLim c)) := rfl
  have g21 : (mapCells c)[21]? = some (.int .i64 (fLimbo c)) := rfl
  have g22 : (mapCells c)[22]? = some (.int .i64 (fWord c)) := rfl
  clear h hb
  unfold mapV at *
  generalize mapCells c = cs at *
  generalize size c = s, fTag c = F7, fRoot c = F10, fLife c = F11, fTop c = F12, fStack c = F13, fLim c = F14, fLimbo c = F15, fWord c = F16, cnt c 15 = n at *
  go_enter Try.func58, Try.ntmps58
  go_wp2_with (refine wpList_load_any 31 _ rfl rfl _ 0 rfl cs _ HM.out.range Try.underlying31 rfl (by rw [hsz]; kernel_rfl) ?_)
  refine (HZ.out _).mono ?_
  rintro e w1 ⟨rfl, hf⟩
  have HM1 := Lib.hid (HM.out.fr hf (by simp))
  have HF := Lib.hid (((Fr.refl [] w).alloc _).trans hf); clear hf
  have c13 := (HM1.out.cell 13).trans g13
  have c16 := (HM1.out.cell 16).trans g16
  have c17 := (HM1.out.cell 17).trans g17
  have c18 := (HM1.out.cell 18).trans g18
  have c19 := (HM1.out.cell 19).trans g19
  have c20 := (HM1.out.cell 20).trans g20
  have c21 := (HM1.out.cell 21).trans g21
  have c22 := (HM1.out.cell 22).trans g22
  go_wp2_with fail
  refine wp_loop_rounds 2 ?_
  iterate 2 ((try rw [rounds_succ]); go_wp2_with (refine wpList_load_any 31 _ rfl rfl _ 0 rfl cs _ HM1.out.range Try.underlying31 rfl (by rw [hsz]; kernel_rfl) ?_))
  refine (HC.out _).mono ?_
  rintro e w2 ⟨rfl, hf⟩
  have HM2 := Lib.hid (HM1.out.fr hf (by simp))
  have HF2 := Lib.hid (HF.out.trans hf); clear hf
  have c22 := (HM2.out.cell 21).trans g21
  go_wp2_with fail
  refine wp_region_fr [(0, [0, 1, 2, 3, 4, 5, 6, 7, 8, 9])] [] (by kernel_rfl) (by kernel_rfl) ?_
  simp only [theOps, nthOp, List.map_cons, List.map_nil, Array.getD_eq_getD_getElem?, List.getElem?_toArray, List.getElem?_cons_succ, List.getElem?_cons_zero, Option.getD_some]
  repeat ((first | refine wpSegs_soft ?_ | refine wpSegs_pure ?_ | refine wpSegs_here ?_); (repeat (first | go_big_quiet_step (fail) | quiet_step (fail))); refine wpQuiet_nil ?_)
  refine wpSegs_done ?_
  go_wp2_with fail
  go_ret3
  exact ⟨rfl, HF2.out.drew⟩
set_option maxHeartbeats 2000000 in
theorem what_16 (w : World) (c : Cfg) (p i k : Int) (h : Ok c) (hi : 0 ≤ i) (hk : 0 ≤ k ∧ k < 8) (hp : p = fWord c + (i * 8 + k)) (h2 : p < size c) : Calls Try.prog 58 #[mapV c, .int .i64 p] w fun e w' => e = .returned (.tuple #[.int .i64 16, .int .i64 i, .int .i64 k]) ∧ Fr [] w w' := by
  have hb := bds h
  have h1 := hb.tag
  have hz := size_bd h
  have b1 := hb.root; have b2 := hb.life; have b3 := hb.top; have b4 := hb.stack; have b5 := hb.lim; have b6 := hb.limbo; have b7 := hb.word; have b8 := hb.size_; have b9 := limit_pos h; have b10 := h.b1; have b11 := h.t1
  have d0 : decide (p < 0) = false := by simp; omega
  have d1 : decide (p ≥ size c) = false := by simp; omega
  have d2 : (p == (0 : Int)) = false := by simp; omega
  have d3 : decide (p < fTag c) = false := by simp; omega
  have d4 : decide (p < fRoot c) = false := by simp; omega
  have t16 : decide (p < fWord c) = false := by simp; omega
  have t15 : decide (p < fLimbo c) = false := by simp; omega
  have t14 : decide (p < fLim c) = false := by simp; omega
  have t13 : decide (p < fStack c) = false := by simp; omega
  have t12 : decide (p < fTop c) = false := by simp; omega
  have t11 : decide (p < fLife c) = false := by simp; omega
  obtain ⟨q, hq⟩ : ∃ q, q = i * 8 + k := ⟨_, rfl⟩
  have e0 : p - fWord c = q := by omega
  have bq : 0 ≤ q ∧ q ≤ 19000 := by omega
  have bi : 0 ≤ i ∧ i ≤ 19000 := by omega
  have br : 0 ≤ k ∧ k ≤ 8 := by omega
  have e1 : Int.tdiv q 8 = i := by rw [Int.tdiv_eq_ediv_of_nonneg (by omega)]; omega
  have e2 : Int.tmod q 8 = k := by rw [Int.tmod_eq_emod_of_nonneg (by omega)]; omega
  have HC := Lib.hid (fun w => counts_any w c h 16)
  rw [show eachP c 16 = 8 by simp [eachP, each]] at HC
  clear hq hp hi hk h2 b1 b2 b3 b4 b5 b6 b7 b8 b9 b10 b11
  have HZ := Lib.hid (fun w => msize_cs w (mapCells c) (size c) rfl rfl)
  have hm := Blk.new w 31 (mapCells c)
  have hsz : (mapCells c).length = 24 := rfl
  have HM := Lib.hid hm; clear hm
  have g13 : (mapCells c)[13]? = some (.int .i64 (fTag c)) := rfl
  have g16 : (mapCells c)[16]? = some (.int .i64 (fRoot c)) := rfl
  have g17 : (mapCells c)[17]? = some (.int .i64 (fLife c)) := rfl
  have g18 : (mapCells c)[18]? = some (.int .i64 (fTop c)) := rfl
  have g19 : (mapCells c)[19]? = some (.int .i64 (fStack c)) := rfl
  have g20 : (mapCells c)[20]? = some (.int .i64 (fLim c)) := rfl
  have g21 : (mapCells c)[21]? = some (.int .i64 (fLimbo c)) := rfl
  have g22 : (mapCells c)[22]? = some (.int .i64 (fWord c)) := rfl
  clear h hb
  unfold mapV at *
  generalize mapCells c = cs at *
  generalize size c = s, fTag c = F7, fRoot c = F10, fLife c = F11, fTop c = F12, fStack c = F13, fLim c = F14, fLimbo c = F15, fWord c = F16, cnt c 16 = n at *
  go_enter Try.func58, Try.ntmps58
  go_wp2_with (refine wpList_load_any 31 _ rfl rfl _ 0 rfl cs _ HM.out.range Try.underlying31 rfl (by rw [hsz]; kernel_rfl) ?_)
  refine (HZ.out _).mono ?_
  rintro e w1 ⟨rfl, hf⟩
  have HM1 := Lib.hid (HM.out.fr hf (by simp))
  have HF := Lib.hid (((Fr.refl [] w).alloc _).trans hf); clear hf
  have c13 := (HM1.out.cell 13).trans g13
  have c16 := (HM1.out.cell 16).trans g16
  have c17 := (HM1.out.cell 17).trans g17
  have c18 := (HM1.out.cell 18).trans g18
  have c19 := (HM1.out.cell 19).trans g19
  have c20 := (HM1.out.cell 20).trans g20
  have c21 := (HM1.out.cell 21).trans g21
  have c22 := (HM1.out.cell 22).trans g22
  go_wp2_with fail
  refine wp_loop_rounds 1 ?_
  iterate 1 ((try rw [rounds_succ]); go_wp2_with (refine wpList_load_any 31 _ rfl rfl _ 0 rfl cs _ HM1.out.range Try.underlying31 rfl (by rw [hsz]; kernel_rfl) ?_))
  refine (HC.out _).mono ?_
  rintro e w2 ⟨rfl, hf⟩
  have HM2 := Lib.hid (HM1.out.fr hf (by simp))
  have HF2 := Lib.hid (HF.out.trans hf); clear hf
  have c22 := (HM2.out.cell 22).trans g22
  go_wp2_with fail
  refine wp_region_fr [(0, [0, 1, 2, 3, 4, 5, 6, 7, 8, 9])] [] (by kernel_rfl) (by kernel_rfl) ?_
  simp only [theOps, nthOp, List.map_cons, List.map_nil, Array.getD_eq_getD_getElem?, List.getElem?_toArray, List.getElem?_cons_succ, List.getElem?_cons_zero, Option.getD_some]
  repeat ((first | refine wpSegs_soft ?_ | refine wpSegs_pure ?_ | refine wpSegs_here ?_); (repeat (first | go_big_quiet_step (fail) | quiet_step (fail))); refine wpQuiet_nil ?_)
  refine wpSegs_done ?_
  go_wp2_with fail
  go_ret3
  exact ⟨rfl, HF2.out.drew⟩
set_option maxHeartbeats 2000000 in
theorem what_6 (w : World) (c : Cfg) (p i r : Int) (h : Ok c) (hi : 0 ≤ i ∧ i < c.t) (hr : 8 ≤ r ∧ r < stride c) (hp : p = 1 + (i * stride c + r)) : Calls Try.prog 58 #[mapV c, .int .i64 p] w fun e w' => e = .returned (.tuple #[.int .i64 6, .int .i64 i, .int .i64 (r - 8)]) ∧ Fr [] w w' := by
  have hb := bds h
  have h1 := hb.tag
  have hz := size_bd h
  have hsb := stride_bd h
  have hib := istr_bd h hi.1 hi.2
  have htb := ts_bd h
  have hfs : fTag c ≤ size c := by
    have b1 := hb.root; have b2 := hb.life; have b3 := hb.top; have b4 := hb.stack; have b5 := hb.lim; have b6 := hb.limbo; have b7 := hb.word; have b8 := hb.size_; have b9 := limit_pos h; have b10 := h.b1; have b11 := h.t1
    omega
  have hrs : r < stride c := by omega
  have hft : fTag c = 1 + c.t * stride c := rfl
  have ht8 := h.t8
  have d0 : decide (p < 0) = false := by simp; omega
  have d1 : decide (p ≥ size c) = false := by simp; omega
  have d2 : (p == (0 : Int)) = false := by simp; omega
  have d3 : decide (p < fTag c) = true := by simp; omega
  have r8 : decide (r ≥ 8) = true := by simp; omega
  have r7 : decide (r ≥ 7) = true := by simp; omega
  have r6 : decide (r ≥ 6) = true := by simp; omega
  have r5 : decide (r ≥ 5) = true := by simp; omega
  have r1 : decide (r ≥ 1) = true := by simp; omega
  have r0 : decide (r ≥ 0) = true := by simp; omega
  obtain ⟨q, hq⟩ : ∃ q, q = i * stride c + r := ⟨_, rfl⟩
  have e0 : p - 1 = q := by omega
  have bq : 0 ≤ q ∧ q ≤ 17000 := by omega
  have bi : 0 ≤ i ∧ i ≤ 8 := by omega
  have br : 0 ≤ r ∧ r ≤ 3000 := by omega
  have e1 : Int.tdiv q (stride c) = i := by
    rw [Int.tdiv_eq_ediv_of_nonneg (by omega), hq, Int.add_comm, Int.add_mul_ediv_right _ _ (by omega), Int.ediv_eq_zero_of_lt (by omega) (by omega)]; omega
  have e2 : Int.tmod q (stride c) = r := by
    rw [Int.tmod_eq_emod_of_nonneg (by omega), hq, Int.add_comm, Int.add_mul_emod_self_right, Int.emod_eq_of_lt (by omega) (by omega)]
  have HS := Lib.hid (fun w => stride_any w c h)
  clear hq hp hi hr hib htb hfs hrs hft ht8
  have HZ := Lib.hid (fun w => msize_cs w (mapCells c) (size c) rfl rfl)
  have hm := Blk.new w 31 (mapCells c)
  have hsz : (mapCells c).length = 24 := rfl
  have HM := Lib.hid hm; clear hm
  have g13 : (mapCells c)[13]? = some (.int .i64 (fTag c)) := rfl
  clear h hb
  unfold mapV at *
  generalize mapCells c = cs at *
  generalize size c = z, fTag c = F7, stride c = s at *
  go_enter Try.func58, Try.ntmps58
  go_wp2_with (refine wpList_load_any 31 _ rfl rfl _ 0 rfl cs _ HM.out.range Try.underlying31 rfl (by rw [hsz]; kernel_rfl) ?_)
  refine (HZ.out _).mono ?_
  rintro e w1 ⟨rfl, hf⟩
  have HM1 := Lib.hid (HM.out.fr hf (by simp))
  have HF := Lib.hid (((Fr.refl [] w).alloc _).trans hf); clear hf
  have c13 := (HM1.out.cell 13).trans g13
  have hmd := HM1.out.drew
  go_wp2_with fail
  refine wp_region_fr [(1, [2, 7]), (0, [0, 1, 5, 6]), (2, [3]), (0, [4]), (3, [8]), (0, [9, 10, 11])] [] (by kernel_rfl) (by kernel_rfl) ?_
  simp only [theOps, nthOp, List.map_cons, List.map_nil, Array.getD_eq_getD_getElem?, List.getElem?_toArray, List.getElem?_cons_succ, List.getElem?_cons_zero, Option.getD_some]
  refine wpSegs_soft ?_
  refine wpQuiet_load_mid 31 _ w.heap.size 0 cs _ rfl rfl rfl (rangeAt_after hmd (by simp)) Try.underlying31 rfl (by rw [hsz]; kernel_rfl) ?_
  simp only [Act.put, List.setIfInBounds_toArray, List.set_cons_zero, List.set_cons_succ]
  refine wpQuiet_load_mid 31 _ w.heap.size 0 cs _ rfl rfl rfl (rangeAt_after hmd (by simp)) Try.underlying31 rfl (by rw [hsz]; kernel_rfl) ?_
  simp only [Act.put, List.setIfInBounds_toArray, List.set_cons_zero, List.set_cons_succ]
  refine wpQuiet_nil ?_
  repeat ((first | refine wpSegs_soft ?_ | refine wpSegs_pure ?_ | refine wpSegs_here ?_); (repeat (first | go_big_quiet_step (fail) | quiet_step (fail))); refine wpQuiet_nil ?_)
  refine wpSegs_keep ?_
  go_wp2_with fail
  refine (HS.out _).mono ?_
  rintro e w2 ⟨rfl, hf⟩
  have HF2 := Lib.hid hf; clear hf
  go_wp2_with fail
  refine ⟨⟨⟨_, (by exact HF2.out)⟩, rfl⟩, ?_⟩
  repeat ((first | refine wpSegs_soft ?_ | refine wpSegs_pure ?_ | refine wpSegs_here ?_); (repeat (first | go_big_quiet_step (fail) | quiet_step (fail))); refine wpQuiet_nil ?_)
  refine wpSegs_hard ?_
  go_wp2_with fail
  refine (HS.out _).mono ?_
  rintro e w3 ⟨rfl, hf⟩
  have HF3 := Lib.hid (HF2.out.trans hf); clear hf
  go_wp2_with fail
  repeat ((first | refine wpSegs_soft ?_ | refine wpSegs_pure ?_ | refine wpSegs_here ?_); (repeat (first | go_big_quiet_step (fail) | quiet_step (fail))); refine wpQuiet_nil ?_)
  refine wpSegs_done ?_
  go_wp2_with fail
  refine wp_loop_rounds 7 ?_
  rw [rounds_succ]
  go_wp2_with fail
  refine (own_any _ _).mono ?_
  rintro e _ ⟨rfl, rfl⟩
  rw [show ownOf 6 = 8 from rfl]
  go_wp2_with fail
  refine (own_any _ _).mono ?_
  rintro e _ ⟨rfl, rfl⟩
  rw [show ownOf 6 = 8 from rfl]
  go_wp2_with fail
  go_ret3
  exact ⟨rfl, (HF.out.drew.trans HF3.out).alloc _⟩
set_option maxHeartbeats 2000000 in
theorem what_5 (w : World) (c : Cfg) (p i r : Int) (h : Ok c) (hi : 0 ≤ i ∧ i < c.t) (hr : 7 ≤ r ∧ r < 8) (hp : p = 1 + (i * stride c + r)) : Calls Try.prog 58 #[mapV c, .int .i64 p] w fun e w' => e = .returned (.tuple #[.int .i64 5, .int .i64 i, .int .i64 (r - 7)]) ∧ Fr [] w w' := by
  have hb := bds h
  have h1 := hb.tag
  have hz := size_bd h
  have hsb := stride_bd h
  have hib := istr_bd h hi.1 hi.2
  have htb := ts_bd h
  have hfs : fTag c ≤ size c := by
    have b1 := hb.root; have b2 := hb.life; have b3 := hb.top; have b4 := hb.stack; have b5 := hb.lim; have b6 := hb.limbo; have b7 := hb.word; have b8 := hb.size_; have b9 := limit_pos h; have b10 := h.b1; have b11 := h.t1
    omega
  have hrs : r < stride c := by omega
  have hft : fTag c = 1 + c.t * stride c := rfl
  have ht8 := h.t8
  have d0 : decide (p < 0) = false := by simp; omega
  have d1 : decide (p ≥ size c) = false := by simp; omega
  have d2 : (p == (0 : Int)) = false := by simp; omega
  have d3 : decide (p < fTag c) = true := by simp; omega
  have r8 : decide (r ≥ 8) = false := by simp; omega
  have r7 : decide (r ≥ 7) = true := by simp; omega
  have r6 : decide (r ≥ 6) = true := by simp; omega
  have r5 : decide (r ≥ 5) = true := by simp; omega
  have r1 : decide (r ≥ 1) = true := by simp; omega
  have r0 : decide (r ≥ 0) = true := by simp; omega
  obtain ⟨q, hq⟩ : ∃ q, q = i * stride c + r := ⟨_, rfl⟩
  have e0 : p - 1 = q := by omega
  have bq : 0 ≤ q ∧ q ≤ 17000 := by omega
  have bi : 0 ≤ i ∧ i ≤ 8 := by omega
  have br : 0 ≤ r ∧ r ≤ 3000 := by omega
  have e1 : Int.tdiv q (stride c) = i := by
    rw [Int.tdiv_eq_ediv_of_nonneg (by omega), hq, Int.add_comm, Int.add_mul_ediv_right _ _ (by omega), Int.ediv_eq_zero_of_lt (by omega) (by omega)]; omega
  have e2 : Int.tmod q (stride c) = r := by
    rw [Int.tmod_eq_emod_of_nonneg (by omega), hq, Int.add_comm, Int.add_mul_emod_self_right, Int.emod_eq_of_lt (by omega) (by omega)]
  have HS := Lib.hid (fun w => stride_any w c h)
  clear hq hp hi hr hib htb hfs hrs hft ht8
  have HZ := Lib.hid (fun w => msize_cs w (mapCells c) (size c) rfl rfl)
  have hm := Blk.new w 31 (mapCells c)
  have hsz : (mapCells c).length = 24 := rfl
  have HM := Lib.hid hm; clear hm
  have g13 : (mapCells c)[13]? = some (.int .i64 (fTag c)) := rfl
  clear h hb
  unfold mapV at *
  generalize mapCells c = cs at *
  generalize size c = z, fTag c = F7, stride c = s at *
  go_enter Try.func58, Try.ntmps58
  go_wp2_with (refine wpList_load_any 31 _ rfl rfl _ 0 rfl cs _ HM.out.range Try.underlying31 rfl (by rw [hsz]; kernel_rfl) ?_)
  refine (HZ.out _).mono ?_
  rintro e w1 ⟨rfl, hf⟩
  have HM1 := Lib.hid (HM.out.fr hf (by simp))
  have HF := Lib.hid (((Fr.refl [] w).alloc _).trans hf); clear hf
  have c13 := (HM1.out.cell 13).trans g13
  have hmd := HM1.out.drew
  go_wp2_with fail
  refine wp_region_fr [(1, [2, 7]), (0, [0, 1, 5, 6]), (2, [3]), (0, [4]), (3, [8]), (0, [9, 10, 11])] [] (by kernel_rfl) (by kernel_rfl) ?_
  simp only [theOps, nthOp, List.map_cons, List.map_nil, Array.getD_eq_getD_getElem?, List.getElem?_toArray, List.getElem?_cons_succ, List.getElem?_cons_zero, Option.getD_some]
  refine wpSegs_soft ?_
  refine wpQuiet_load_mid 31 _ w.heap.size 0 cs _ rfl rfl rfl (rangeAt_after hmd (by simp)) Try.underlying31 rfl (by rw [hsz]; kernel_rfl) ?_
  simp only [Act.put, List.setIfInBounds_toArray, List.set_cons_zero, List.set_cons_succ]
  refine wpQuiet_load_mid 31 _ w.heap.size 0 cs _ rfl rfl rfl (rangeAt_after hmd (by simp)) Try.underlying31 rfl (by rw [hsz]; kernel_rfl) ?_
  simp only [Act.put, List.setIfInBounds_toArray, List.set_cons_zero, List.set_cons_succ]
  refine wpQuiet_nil ?_
  repeat ((first | refine wpSegs_soft ?_ | refine wpSegs_pure ?_ | refine wpSegs_here ?_); (repeat (first | go_big_quiet_step (fail) | quiet_step (fail))); refine wpQuiet_nil ?_)
  refine wpSegs_keep ?_
  go_wp2_with fail
  refine (HS.out _).mono ?_
  rintro e w2 ⟨rfl, hf⟩
  have HF2 := Lib.hid hf; clear hf
  go_wp2_with fail
  refine ⟨⟨⟨_, (by exact HF2.out)⟩, rfl⟩, ?_⟩
  repeat ((first | refine wpSegs_soft ?_ | refine wpSegs_pure ?_ | refine wpSegs_here ?_); (repeat (first | go_big_quiet_step (fail) | quiet_step (fail))); refine wpQuiet_nil ?_)
  refine wpSegs_hard ?_
  go_wp2_with fail
  refine (HS.out _).mono ?_
  rintro e w3 ⟨rfl, hf⟩
  have HF3 := Lib.hid (HF2.out.trans hf); clear hf
  go_wp2_with fail
  repeat ((first | refine wpSegs_soft ?_ | refine wpSegs_pure ?_ | refine wpSegs_here ?_); (repeat (first | go_big_quiet_step (fail) | quiet_step (fail))); refine wpQuiet_nil ?_)
  refine wpSegs_done ?_
  go_wp2_with fail
  refine wp_loop_rounds 7 ?_
  rw [rounds_succ]
  go_wp2_with fail
  refine (own_any _ _).mono ?_
  rintro e _ ⟨rfl, rfl⟩
  rw [show ownOf 6 = 8 from rfl]
  go_wp2_with fail
  rw [rounds_succ]
  go_wp2_with fail
  refine (own_any _ _).mono ?_
  rintro e _ ⟨rfl, rfl⟩
  rw [show ownOf 5 = 7 from rfl]
  go_wp2_with fail
  refine (own_any _ _).mono ?_
  rintro e _ ⟨rfl, rfl⟩
  rw [show ownOf 5 = 7 from rfl]
  go_wp2_with fail
  go_ret3
  exact ⟨rfl, (HF.out.drew.trans HF3.out).alloc _⟩
set_option maxHeartbeats 2000000 in
theorem what_4 (w : World) (c : Cfg) (p i r : Int) (h : Ok c) (hi : 0 ≤ i ∧ i < c.t) (hr : 6 ≤ r ∧ r < 7) (hp : p = 1 + (i * stride c + r)) : Calls Try.prog 58 #[mapV c, .int .i64 p] w fun e w' => e = .returned (.tuple #[.int .i64 4, .int .i64 i, .int .i64 (r - 6)]) ∧ Fr [] w w' := by
  have hb := bds h
  have h1 := hb.tag
  have hz := size_bd h
  have hsb := stride_bd h
  have hib := istr_bd h hi.1 hi.2
  have htb := ts_bd h
  have hfs : fTag c ≤ size c := by
    have b1 := hb.root; have b2 := hb.life; have b3 := hb.top; have b4 := hb.stack; have b5 := hb.lim; have b6 := hb.limbo; have b7 := hb.word; have b8 := hb.size_; have b9 := limit_pos h; have b10 := h.b1; have b11 := h.t1
    omega
  have hrs : r < stride c := by omega
  have hft : fTag c = 1 + c.t * stride c := rfl
  have ht8 := h.t8
  have d0 : decide (p < 0) = false := by simp; omega
  have d1 : decide (p ≥ size c) = false := by simp; omega
  have d2 : (p == (0 : Int)) = false := by simp; omega
  have d3 : decide (p < fTag c) = true := by simp; omega
  have r8 : decide (r ≥ 8) = false := by simp; omega
  have r7 : decide (r ≥ 7) = false := by simp; omega
  have r6 : decide (r ≥ 6) = true := by simp; omega
  have r5 : decide (r ≥ 5) = true := by simp; omega
  have r1 : decide (r ≥ 1) = true := by simp; omega
  have r0 : decide (r ≥ 0) = true := by simp; omega
  obtain ⟨q, hq⟩ : ∃ q, q = i * stride c + r := ⟨_, rfl⟩
  have e0 : p - 1 = q := by omega
  have bq : 0 ≤ q ∧ q ≤ 17000 := by omega
  have bi : 0 ≤ i ∧ i ≤ 8 := by omega
  have br : 0 ≤ r ∧ r ≤ 3000 := by omega
  have e1 : Int.tdiv q (stride c) = i := by
    rw [Int.tdiv_eq_ediv_of_nonneg (by omega), hq, Int.add_comm, Int.add_mul_ediv_right _ _ (by omega), Int.ediv_eq_zero_of_lt (by omega) (by omega)]; omega
  have e2 : Int.tmod q (stride c) = r := by
    rw [Int.tmod_eq_emod_of_nonneg (by omega), hq, Int.add_comm, Int.add_mul_emod_self_right, Int.emod_eq_of_lt (by omega) (by omega)]
  have HS := Lib.hid (fun w => stride_any w c h)
  clear hq hp hi hr hib htb hfs hrs hft ht8
  have HZ := Lib.hid (fun w => msize_cs w (mapCells c) (size c) rfl rfl)
  have hm := Blk.new w 31 (mapCells c)
  have hsz : (mapCells c).length = 24 := rfl
  have HM := Lib.hid hm; clear hm
  have g13 : (mapCells c)[13]? = some (.int .i64 (fTag c)) := rfl
  clear h hb
  unfold mapV at *
  generalize mapCells c = cs at *
  generalize size c = z, fTag c = F7, stride c = s at *
  go_enter Try.func58, Try.ntmps58
  go_wp2_with (refine wpList_load_any 31 _ rfl rfl _ 0 rfl cs _ HM.out.range Try.underlying31 rfl (by rw [hsz]; kernel_rfl) ?_)
  refine (HZ.out _).mono ?_
  rintro e w1 ⟨rfl, hf⟩
  have HM1 := Lib.hid (HM.out.fr hf (by simp))
  have HF := Lib.hid (((Fr.refl [] w).alloc _).trans hf); clear hf
  have c13 := (HM1.out.cell 13).trans g13
  have hmd := HM1.out.drew
  go_wp2_with fail
  refine wp_region_fr [(1, [2, 7]), (0, [0, 1, 5, 6]), (2, [3]), (0, [4]), (3, [8]), (0, [9, 10, 11])] [] (by kernel_rfl) (by kernel_rfl) ?_
  simp only [theOps, nthOp, List.map_cons, List.map_nil, Array.getD_eq_getD_getElem?, List.getElem?_toArray, List.getElem?_cons_succ, List.getElem?_cons_zero, Option.getD_some]
  refine wpSegs_soft ?_
  refine wpQuiet_load_mid 31 _ w.heap.size 0 cs _ rfl rfl rfl (rangeAt_after hmd (by simp)) Try.underlying31 rfl (by rw [hsz]; kernel_rfl) ?_
  simp only [Act.put, List.setIfInBounds_toArray, List.set_cons_zero, List.set_cons_succ]
  refine wpQuiet_load_mid 31 _ w.heap.size 0 cs _ rfl rfl rfl (rangeAt_after hmd (by simp)) Try.underlying31 rfl (by rw [hsz]; kernel_rfl) ?_
  simp only [Act.put, List.setIfInBounds_toArray, List.set_cons_zero, List.set_cons_succ]
  refine wpQuiet_nil ?_
  repeat ((first | refine wpSegs_soft ?_ | refine wpSegs_pure ?_ | refine wpSegs_here ?_); (repeat (first | go_big_quiet_step (fail) | quiet_step (fail))); refine wpQuiet_nil ?_)
  refine wpSegs_keep ?_
  go_wp2_with fail
  refine (HS.out _).mono ?_
  rintro e w2 ⟨rfl, hf⟩
  have HF2 := Lib.hid hf; clear hf
  go_wp2_with fail
  refine ⟨⟨⟨_, (by exact HF2.out)⟩, rfl⟩, ?_⟩
  repeat ((first | refine wpSegs_soft ?_ | refine wpSegs_pure ?_ | refine wpSegs_here ?_); (repeat (first | go_big_quiet_step (fail) | quiet_step (fail))); refine wpQuiet_nil ?_)
  refine wpSegs_hard ?_
  go_wp2_with fail
  refine (HS.out _).mono ?_
  rintro e w3 ⟨rfl, hf⟩
  have HF3 := Lib.hid (HF2.out.trans hf); clear hf
  go_wp2_with fail
  repeat ((first | refine wpSegs_soft ?_ | refine wpSegs_pure ?_ | refine wpSegs_here ?_); (repeat (first | go_big_quiet_step (fail) | quiet_step (fail))); refine wpQuiet_nil ?_)
  refine wpSegs_done ?_
  go_wp2_with fail
  refine wp_loop_rounds 7 ?_
  rw [rounds_succ]
  go_wp2_with fail
  refine (own_any _ _).mono ?_
  rintro e _ ⟨rfl, rfl⟩
  rw [show ownOf 6 = 8 from rfl]
  go_wp2_with fail
  rw [rounds_succ]
  go_wp2_with fail
  refine (own_any _ _).mono ?_
  rintro e _ ⟨rfl, rfl⟩
  rw [show ownOf 5 = 7 from rfl]
  go_wp2_with fail
  rw [rounds_succ]
  go_wp2_with fail
  refine (own_any _ _).mono ?_
  rintro e _ ⟨rfl, rfl⟩
  rw [show ownOf 4 = 6 from rfl]
  go_wp2_with fail
  refine (own_any _ _).mono ?_
  rintro e _ ⟨rfl, rfl⟩
  rw [show ownOf 4 = 6 from rfl]
  go_wp2_with fail
  go_ret3
  exact ⟨rfl, (HF.out.drew.trans HF3.out).alloc _⟩
set_option maxHeartbeats 2000000 in
theorem what_3 (w : World) (c : Cfg) (p i r : Int) (h : Ok c) (hi : 0 ≤ i ∧ i < c.t) (hr : 5 ≤ r ∧ r < 6) (hp : p = 1 + (i * stride c + r)) : Calls Try.prog 58 #[mapV c, .int .i64 p] w fun e w' => e = .returned (.tuple #[.int .i64 3, .int .i64 i, .int .i64 (r - 5)]) ∧ Fr [] w w' := by
  have hb := bds h
  have h1 := hb.tag
  have hz := size_bd h
  have hsb := stride_bd h
  have hib := istr_bd h hi.1 hi.2
  have htb := ts_bd h
  have hfs : fTag c ≤ size c := by
    have b1 := hb.root; have b2 := hb.life; have b3 := hb.top; have b4 := hb.stack; have b5 := hb.lim; have b6 := hb.limbo; have b7 := hb.word; have b8 := hb.size_; have b9 := limit_pos h; have b10 := h.b1; have b11 := h.t1
    omega
  have hrs : r < stride c := by omega
  have hft : fTag c = 1 + c.t * stride c := rfl
  have ht8 := h.t8
  have d0 : decide (p < 0) = false := by simp; omega
  have d1 : decide (p ≥ size c) = false := by simp; omega
  have d2 : (p == (0 : Int)) = false := by simp; omega
  have d3 : decide (p < fTag c) = true := by simp; omega
  have r8 : decide (r ≥ 8) = false := by simp; omega
  have r7 : decide (r ≥ 7) = false := by simp; omega
  have r6 : decide (r ≥ 6) = false := by simp; omega
  have r5 : decide (r ≥ 5) = true := by simp; omega
  have r1 : decide (r ≥ 1) = true := by simp; omega
  have r0 : decide (r ≥ 0) = true := by simp; omega
  obtain ⟨q, hq⟩ : ∃ q, q = i * stride c + r := ⟨_, rfl⟩
  have e0 : p - 1 = q := by omega
  have bq : 0 ≤ q ∧ q ≤ 17000 := by omega
  have bi : 0 ≤ i ∧ i ≤ 8 := by omega
  have br : 0 ≤ r ∧ r ≤ 3000 := by omega
  have e1 : Int.tdiv q (stride c) = i := by
    rw [Int.tdiv_eq_ediv_of_nonneg (by omega), hq, Int.add_comm, Int.add_mul_ediv_right _ _ (by omega), Int.ediv_eq_zero_of_lt (by omega) (by omega)]; omega
  have e2 : Int.tmod q (stride c) = r := by
    rw [Int.tmod_eq_emod_of_nonneg (by omega), hq, Int.add_comm, Int.add_mul_emod_self_right, Int.emod_eq_of_lt (by omega) (by omega)]
  have HS := Lib.hid (fun w => stride_any w c h)
  clear hq hp hi hr hib htb hfs hrs hft ht8
  have HZ := Lib.hid (fun w => msize_cs w (mapCells c) (size c) rfl rfl)
  have hm := Blk.new w 31 (mapCells c)
  have hsz : (mapCells c).length = 24 := rfl
  have HM := Lib.hid hm; clear hm
  have g13 : (mapCells c)[13]? = some (.int .i64 (fTag c)) := rfl
  clear h hb
  unfold mapV at *
  generalize mapCells c = cs at *
  generalize size c = z, fTag c = F7, stride c = s at *
  go_enter Try.func58, Try.ntmps58
  go_wp2_with (refine wpList_load_any 31 _ rfl rfl _ 0 rfl cs _ HM.out.range Try.underlying31 rfl (by rw [hsz]; kernel_rfl) ?_)
  refine (HZ.out _).mono ?_
  rintro e w1 ⟨rfl, hf⟩
  have HM1 := Lib.hid (HM.out.fr hf (by simp))
  have HF := Lib.hid (((Fr.refl [] w).alloc _).trans hf); clear hf
  have c13 := (HM1.out.cell 13).trans g13
  have hmd := HM1.out.drew
  go_wp2_with fail
  refine wp_region_fr [(1, [2, 7]), (0, [0, 1, 5, 6]), (2, [3]), (0, [4]), (3, [8]), (0, [9, 10, 11])] [] (by kernel_rfl) (by kernel_rfl) ?_
  simp only [theOps, nthOp, List.map_cons, List.map_nil, Array.getD_eq_getD_getElem?, List.getElem?_toArray, List.getElem?_cons_succ, List.getElem?_cons_zero, Option.getD_some]
  refine wpSegs_soft ?_
  refine wpQuiet_load_mid 31 _ w.heap.size 0 cs _ rfl rfl rfl (rangeAt_after hmd (by simp)) Try.underlying31 rfl (by rw [hsz]; kernel_rfl) ?_
  simp only [Act.put, List.setIfInBounds_toArray, List.set_cons_zero, List.set_cons_succ]
  refine wpQuiet_load_mid 31 _ w.heap.size 0 cs _ rfl rfl rfl (rangeAt_after hmd (by simp)) Try.underlying31 rfl (by rw [hsz]; kernel_rfl) ?_
  simp only [Act.put, List.setIfInBounds_toArray, List.set_cons_zero, List.set_cons_succ]
  refine wpQuiet_nil ?_
  repeat ((first | refine wpSegs_soft ?_ | refine wpSegs_pure ?_ | refine wpSegs_here ?_); (repeat (first | go_big_quiet_step (fail) | quiet_step (fail))); refine wpQuiet_nil ?_)
  refine wpSegs_keep ?_
  go_wp2_with fail
  refine (HS.out _).mono ?_
  rintro e w2 ⟨rfl, hf⟩
  have HF2 := Lib.hid hf; clear hf
  go_wp2_with fail
  refine ⟨⟨⟨_, (by exact HF2.out)⟩, rfl⟩, ?_⟩
  repeat ((first | refine wpSegs_soft ?_ | refine wpSegs_pure ?_ | refine wpSegs_here ?_); (repeat (first | go_big_quiet_step (fail) | quiet_step (fail))); refine wpQuiet_nil ?_)
  refine wpSegs_hard ?_
  go_wp2_with fail
  refine (HS.out _).mono ?_
  rintro e w3 ⟨rfl, hf⟩
  have HF3 := Lib.hid (HF2.out.trans hf); clear hf
  go_wp2_with fail
  repeat ((first | refine wpSegs_soft ?_ | refine wpSegs_pure ?_ | refine wpSegs_here ?_); (repeat (first | go_big_quiet_step (fail) | quiet_step (fail))); refine wpQuiet_nil ?_)
  refine wpSegs_done ?_
  go_wp2_with fail
  refine wp_loop_rounds 7 ?_
  rw [rounds_succ]
  go_wp2_with fail
  refine (own_any _ _).mono ?_
  rintro e _ ⟨rfl, rfl⟩
  rw [show ownOf 6 = 8 from rfl]
  go_wp2_with fail
  rw [rounds_succ]
  go_wp2_with fail
  refine (own_any _ _).mono ?_
  rintro e _ ⟨rfl, rfl⟩
  rw [show ownOf 5 = 7 from rfl]
  go_wp2_with fail
  rw [rounds_succ]
  go_wp2_with fail
  refine (own_any _ _).mono ?_
  rintro e _ ⟨rfl, rfl⟩
  rw [show ownOf 4 = 6 from rfl]
  go_wp2_with fail
  rw [rounds_succ]
  go_wp2_with fail
  refine (own_any _ _).mono ?_
  rintro e _ ⟨rfl, rfl⟩
  rw [show ownOf 3 = 5 from rfl]
  go_wp2_with fail
  refine (own_any _ _).mono ?_
  rintro e _ ⟨rfl, rfl⟩
  rw [show ownOf 3 = 5 from rfl]
  go_wp2_with fail
  go_ret3
  exact ⟨rfl, (HF.out.drew.trans HF3.out).alloc _⟩
set_option maxHeartbeats 2000000 in
theorem what_2 (w : World) (c : Cfg) (p i r : Int) (h : Ok c) (hi : 0 ≤ i ∧ i < c.t) (hr : 1 ≤ r ∧ r < 5) (hp : p = 1 + (i * stride c + r)) : Calls Try.prog 58 #[mapV c, .int .i64 p] w fun e w' => e = .returned (.tuple #[.int .i64 2, .int .i64 i, .int .i64 (r - 1)]) ∧ Fr [] w w' := by
  have hb := bds h
  have h1 := hb.tag
  have hz := size_bd h
  have hsb := stride_bd h
  have hib := istr_bd h hi.1 hi.2
  have htb := ts_bd h
  have hfs : fTag c ≤ size c := by
    have b1 := hb.root; have b2 := hb.life; have b3 := hb.top; have b4 := hb.stack; have b5 := hb.lim; have b6 := hb.limbo; have b7 := hb.word; have b8 := hb.size_; have b9 := limit_pos h; have b10 := h.b1; have b11 := h.t1
    omega
  have hrs : r < stride c := by omega
  have hft : fTag c = 1 + c.t * stride c := rfl
  have ht8 := h.t8
  have d0 : decide (p < 0) = false := by simp; omega
  have d1 : decide (p ≥ size c) = false := by simp; omega
  have d2 : (p == (0 : Int)) = false := by simp; omega
  have d3 : decide (p < fTag c) = true := by simp; omega
  have r8 : decide (r ≥ 8) = false := by simp; omega
  have r7 : decide (r ≥ 7) = false := by simp; omega
  have r6 : decide (r ≥ 6) = false := by simp; omega
  have r5 : decide (r ≥ 5) = false := by simp; omega
  have r1 : decide (r ≥ 1) = true := by simp; omega
  have r0 : decide (r ≥ 0) = true := by simp; omega
  obtain ⟨q, hq⟩ : ∃ q, q = i * stride c + r := ⟨_, rfl⟩
  have e0 : p - 1 = q := by omega
  have bq : 0 ≤ q ∧ q ≤ 17000 := by omega
  have bi : 0 ≤ i ∧ i ≤ 8 := by omega
  have br : 0 ≤ r ∧ r ≤ 3000 := by omega
  have e1 : Int.tdiv q (stride c) = i := by
    rw [Int.tdiv_eq_ediv_of_nonneg (by omega), hq, Int.add_comm, Int.add_mul_ediv_right _ _ (by omega), Int.ediv_eq_zero_of_lt (by omega) (by omega)]; omega
  have e2 : Int.tmod q (stride c) = r := by
    rw [Int.tmod_eq_emod_of_nonneg (by omega), hq, Int.add_comm, Int.add_mul_emod_self_right, Int.emod_eq_of_lt (by omega) (by omega)]
  have HS := Lib.hid (fun w => stride_any w c h)
  clear hq hp hi hr hib htb hfs hrs hft ht8
  have HZ := Lib.hid (fun w => msize_cs w (mapCells c) (size c) rfl rfl)
  have hm := Blk.new w 31 (mapCells c)
  have hsz : (mapCells c).length = 24 := rfl
  have HM := Lib.hid hm; clear hm
  have g13 : (mapCells c)[13]? = some (.int .i64 (fTag c)) := rfl
  clear h hb
  unfold mapV at *
  generalize mapCells c = cs at *
  generalize size c = z, fTag c = F7, stride c = s at *
  go_enter Try.func58, Try.ntmps58
  go_wp2_with (refine wpList_load_any 31 _ rfl rfl _ 0 rfl cs _ HM.out.range Try.underlying31 rfl (by rw [hsz]; kernel_rfl) ?_)
  refine (HZ.out _).mono ?_
  rintro e w1 ⟨rfl, hf⟩
  have HM1 := Lib.hid (HM.out.fr hf (by simp))
  have HF := Lib.hid (((Fr.refl [] w).alloc _).trans hf); clear hf
  have c13 := (HM1.out.cell 13).trans g13
  have hmd := HM1.out.drew
  go_wp2_with fail
  refine wp_region_fr [(1, [2, 7]), (0, [0, 1, 5, 6]), (2, [3]), (0, [4]), (3, [8]), (0, [9, 10, 11])] [] (by kernel_rfl) (by kernel_rfl) ?_
  simp only [theOps, nthOp, List.map_cons, List.map_nil, Array.getD_eq_getD_getElem?, List.getElem?_toArray, List.getElem?_cons_succ, List.getElem?_cons_zero, Option.getD_some]
  refine wpSegs_soft ?_
  refine wpQuiet_load_mid 31 _ w.heap.size 0 cs _ rfl rfl rfl (rangeAt_after hmd (by simp)) Try.underlying31 rfl (by rw [hsz]; kernel_rfl) ?_
  simp only [Act.put, List.setIfInBounds_toArray, List.set_cons_zero, List.set_cons_succ]
  refine wpQuiet_load_mid 31 _ w.heap.size 0 cs _ rfl rfl rfl (rangeAt_after hmd (by simp)) Try.underlying31 rfl (by rw [hsz]; kernel_rfl) ?_
  simp only [Act.put, List.setIfInBounds_toArray, List.set_cons_zero, List.set_cons_succ]
  refine wpQuiet_nil ?_
  repeat ((first | refine wpSegs_soft ?_ | refine wpSegs_pure ?_ | refine wpSegs_here ?_); (repeat (first | go_big_quiet_step (fail) | quiet_step (fail))); refine wpQuiet_nil ?_)
  refine wpSegs_keep ?_
  go_wp2_with fail
  refine (HS.out _).mono ?_
  rintro e w2 ⟨rfl, hf⟩
  have HF2 := Lib.hid hf; clear hf
  go_wp2_with fail
  refine ⟨⟨⟨_, (by exact HF2.out)⟩, rfl⟩, ?_⟩
  repeat ((first | refine wpSegs_soft ?_ | refine wpSegs_pure ?_ | refine wpSegs_here ?_); (repeat (first | go_big_quiet_step (fail) | quiet_step (fail))); refine wpQuiet_nil ?_)
  refine wpSegs_hard ?_
  go_wp2_with fail
  refine (HS.out _).mono ?_
  rintro e w3 ⟨rfl, hf⟩
  have HF3 := Lib.hid (HF2.out.trans hf); clear hf
  go_wp2_with fail
  repeat ((first | refine wpSegs_soft ?_ | refine wpSegs_pure ?_ | refine wpSegs_here ?_); (repeat (first | go_big_quiet_step (fail) | quiet_step (fail))); refine wpQuiet_nil ?_)
  refine wpSegs_done ?_
  go_wp2_with fail
  refine wp_loop_rounds 7 ?_
  rw [rounds_succ]
  go_wp2_with fail
  refine (own_any _ _).mono ?_
  rintro e _ ⟨rfl, rfl⟩
  rw [show ownOf 6 = 8 from rfl]
  go_wp2_with fail
  rw [rounds_succ]
  go_wp2_with fail
  refine (own_any _ _).mono ?_
  rintro e _ ⟨rfl, rfl⟩
  rw [show ownOf 5 = 7 from rfl]
  go_wp2_with fail
  rw [rounds_succ]
  go_wp2_with fail
  refine (own_any _ _).mono ?_
  rintro e _ ⟨rfl, rfl⟩
  rw [show ownOf 4 = 6 from rfl]
  go_wp2_with fail
  rw [rounds_succ]
  go_wp2_with fail
  refine (own_any _ _).mono ?_
  rintro e _ ⟨rfl, rfl⟩
  rw [show ownOf 3 = 5 from rfl]
  go_wp2_with fail
  rw [rounds_succ]
  go_wp2_with fail
  refine (own_any _ _).mono ?_
  rintro e _ ⟨rfl, rfl⟩
  rw [show ownOf 2 = 1 from rfl]
  go_wp2_with fail
  refine (own_any _ _).mono ?_
  rintro e _ ⟨rfl, rfl⟩
  rw [show ownOf 2 = 1 from rfl]
  go_wp2_with fail
  go_ret3
  exact ⟨rfl, (HF.out.drew.trans HF3.out).alloc _⟩
set_option maxHeartbeats 2000000 in
theorem what_1 (w : World) (c : Cfg) (p i r : Int) (h : Ok c) (hi : 0 ≤ i ∧ i < c.t) (hr : 0 ≤ r ∧ r < 1) (hp : p = 1 + (i * stride c + r)) : Calls Try.prog 58 #[mapV c, .int .i64 p] w fun e w' => e = .returned (.tuple #[.int .i64 1, .int .i64 i, .int .i64 r]) ∧ Fr [] w w' := by
  have hb := bds h
  have h1 := hb.tag
  have hz := size_bd h
  have hsb := stride_bd h
  have hib := istr_bd h hi.1 hi.2
  have htb := ts_bd h
  have hfs : fTag c ≤ size c := by
    have b1 := hb.root; have b2 := hb.life; have b3 := hb.top; have b4 := hb.stack; have b5 := hb.lim; have b6 := hb.limbo; have b7 := hb.word; have b8 := hb.size_; have b9 := limit_pos h; have b10 := h.b1; have b11 := h.t1
    omega
  have hrs : r < stride c := by omega
  have hft : fTag c = 1 + c.t * stride c := rfl
  have ht8 := h.t8
  have d0 : decide (p < 0) = false := by simp; omega
  have d1 : decide (p ≥ size c) = false := by simp; omega
  have d2 : (p == (0 : Int)) = false := by simp; omega
  have d3 : decide (p < fTag c) = true := by simp; omega
  have r8 : decide (r ≥ 8) = false := by simp; omega
  have r7 : decide (r ≥ 7) = false := by simp; omega
  have r6 : decide (r ≥ 6) = false := by simp; omega
  have r5 : decide (r ≥ 5) = false := by simp; omega
  have r1 : decide (r ≥ 1) = false := by simp; omega
  have r0 : decide (r ≥ 0) = true := by simp; omega
  obtain ⟨q, hq⟩ : ∃ q, q = i * stride c + r := ⟨_, rfl⟩
  have e0 : p - 1 = q := by omega
  have bq : 0 ≤ q ∧ q ≤ 17000 := by omega
  have bi : 0 ≤ i ∧ i ≤ 8 := by omega
  have br : 0 ≤ r ∧ r ≤ 3000 := by omega
  have e1 : Int.tdiv q (stride c) = i := by
    rw [Int.tdiv_eq_ediv_of_nonneg (by omega), hq, Int.add_comm, Int.add_mul_ediv_right _ _ (by omega), Int.ediv_eq_zero_of_lt (by omega) (by omega)]; omega
  have e2 : Int.tmod q (stride c) = r := by
    rw [Int.tmod_eq_emod_of_nonneg (by omega), hq, Int.add_comm, Int.add_mul_emod_self_right, Int.emod_eq_of_lt (by omega) (by omega)]
  have HS := Lib.hid (fun w => stride_any w c h)
  clear hq hp hi hr hib htb hfs hrs hft ht8
  have HZ := Lib.hid (fun w => msize_cs w (mapCells c) (size c) rfl rfl)
  have hm := Blk.new w 31 (mapCells c)
  have hsz : (mapCells c).length = 24 := rfl
  have HM := Lib.hid hm; clear hm
  have g13 : (mapCells c)[13]? = some (.int .i64 (fTag c)) := rfl
  clear h hb
  unfold mapV at *
  generalize mapCells c = cs at *
  generalize size c = z, fTag c = F7, stride c = s at *
  go_enter Try.func58, Try.ntmps58
  go_wp2_with (refine wpList_load_any 31 _ rfl rfl _ 0 rfl cs _ HM.out.range Try.underlying31 rfl (by rw [hsz]; kernel_rfl) ?_)
  refine (HZ.out _).mono ?_
  rintro e w1 ⟨rfl, hf⟩
  have HM1 := Lib.hid (HM.out.fr hf (by simp))
  have HF := Lib.hid (((Fr.refl [] w).alloc _).trans hf); clear hf
  have c13 := (HM1.out.cell 13).trans g13
  have hmd := HM1.out.drew
  go_wp2_with fail
  refine wp_region_fr [(1, [2, 7]), (0, [0, 1, 5, 6]), (2, [3]), (0, [4]), (3, [8]), (0, [9, 10, 11])] [] (by kernel_rfl) (by kernel_rfl) ?_
  simp only [theOps, nthOp, List.map_cons, List.map_nil, Array.getD_eq_getD_getElem?, List.getElem?_toArray, List.getElem?_cons_succ, List.getElem?_cons_zero, Option.getD_some]
  refine wpSegs_soft ?_
  refine wpQuiet_load_mid 31 _ w.heap.size 0 cs _ rfl rfl rfl (rangeAt_after hmd (by simp)) Try.underlying31 rfl (by rw [hsz]; kernel_rfl) ?_
  simp only [Act.put, List.setIfInBounds_toArray, List.set_cons_zero, List.set_cons_succ]
  refine wpQuiet_load_mid 31 _ w.heap.size 0 cs _ rfl rfl rfl (rangeAt_after hmd (by simp)) Try.underlying31 rfl (by rw [hsz]; kernel_rfl) ?_
  simp only [Act.put, List.setIfInBounds_toArray, List.set_cons_zero, List.set_cons_succ]
  refine wpQuiet_nil ?_
  repeat ((first | refine wpSegs_soft ?_ | refine wpSegs_pure ?_ | refine wpSegs_here ?_); (repeat (first | go_big_quiet_step (fail) | quiet_step (fail))); refine wpQuiet_nil ?_)
  refine wpSegs_keep ?_
  go_wp2_with fail
  refine (HS.out _).mono ?_
  rintro e w2 ⟨rfl, hf⟩
  have HF2 := Lib.hid hf; clear hf
  go_wp2_with fail
  refine ⟨⟨⟨_, (by exact HF2.out)⟩, rfl⟩, ?_⟩
  repeat ((first | refine wpSegs_soft ?_ | refine wpSegs_pure ?_ | refine wpSegs_here ?_); (repeat (first | go_big_quiet_step (fail) | quiet_step (fail))); refine wpQuiet_nil ?_)
  refine wpSegs_hard ?_
  go_wp2_with fail
  refine (HS.out _).mono ?_
  rintro e w3 ⟨rfl, hf⟩
  have HF3 := Lib.hid (HF2.out.trans hf); clear hf
  go_wp2_with fail
  repeat ((first | refine wpSegs_soft ?_ | refine wpSegs_pure ?_ | refine wpSegs_here ?_); (repeat (first | go_big_quiet_step (fail) | quiet_step (fail))); refine wpQuiet_nil ?_)
  refine wpSegs_done ?_
  go_wp2_with fail
  refine wp_loop_rounds 7 ?_
  rw [rounds_succ]
  go_wp2_with fail
  refine (own_any _ _).mono ?_
  rintro e _ ⟨rfl, rfl⟩
  rw [show ownOf 6 = 8 from rfl]
  go_wp2_with fail
  rw [rounds_succ]
  go_wp2_with fail
  refine (own_any _ _).mono ?_
  rintro e _ ⟨rfl, rfl⟩
  rw [show ownOf 5 = 7 from rfl]
  go_wp2_with fail
  rw [rounds_succ]
  go_wp2_with fail
  refine (own_any _ _).mono ?_
  rintro e _ ⟨rfl, rfl⟩
  rw [show ownOf 4 = 6 from rfl]
  go_wp2_with fail
  rw [rounds_succ]
  go_wp2_with fail
  refine (own_any _ _).mono ?_
  rintro e _ ⟨rfl, rfl⟩
  rw [show ownOf 3 = 5 from rfl]
  go_wp2_with fail
  rw [rounds_succ]
  go_wp2_with fail
  refine (own_any _ _).mono ?_
  rintro e _ ⟨rfl, rfl⟩
  rw [show ownOf 2 = 1 from rfl]
  go_wp2_with fail
  rw [rounds_succ]
  go_wp2_with fail
  refine (own_any _ _).mono ?_
  rintro e _ ⟨rfl, rfl⟩
  rw [show ownOf 1 = 0 from rfl]
  go_wp2_with fail
  refine (own_any _ _).mono ?_
  rintro e _ ⟨rfl, rfl⟩
  rw [show ownOf 1 = 0 from rfl]
  go_wp2_with fail
  go_ret3
  exact ⟨rfl, (HF.out.drew.trans HF3.out).alloc _⟩
end Go.Proofs.Ytccioehckfdjdaa
