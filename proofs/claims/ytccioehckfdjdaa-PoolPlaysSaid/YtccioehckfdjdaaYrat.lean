/- The walk of the document's At. -/
import Derived.Test.YtccioehckfdjdaaYref
set_option linter.unusedSimpArgs false
set_option linter.unusedVariables false
namespace Go.Proofs.Ytccioehckfdjdaa
open Go.RowKit Go.Tum Go.Tum.Y
set_option maxHeartbeats 1000000 in
theorem rat_bad1 (w : World) (c : Cfg) (kind i k : Int) (d0 : decide (kind < 0) = true) : Calls Try.prog 94 #[cfgV c, .int .i64 kind, .int .i64 i, .int .i64 k] w fun e w' => e = .returned (.int .i64 (-1)) ∧ Fr [] w w' := by
  rw [show cfgV c = .agg (cfgL c).toArray from rfl] at *
  generalize cfgL c = cl at *
  go_enter Try.func94, Try.ntmps94
  go_wp2
  go_ret
  exact ⟨rfl, (Fr.refl [] _).alloc _⟩
set_option maxHeartbeats 1000000 in
theorem rat_bad2 (w : World) (c : Cfg) (kind i k : Int) (d0 : decide (kind < 0) = false) (d1 : decide (kind > 16) = true) : Calls Try.prog 94 #[cfgV c, .int .i64 kind, .int .i64 i, .int .i64 k] w fun e w' => e = .returned (.int .i64 (-1)) ∧ Fr [] w w' := by
  rw [show cfgV c = .agg (cfgL c).toArray from rfl] at *
  generalize cfgL c = cl at *
  go_enter Try.func94, Try.ntmps94
  go_wp2
  go_ret
  exact ⟨rfl, (Fr.refl [] _).alloc _⟩
set_option maxHeartbeats 1000000 in
theorem rat_bad3 (w : World) (c : Cfg) (kind i k : Int) (d0 : decide (kind < 0) = false) (d1 : decide (kind > 16) = false) (d2 : decide (i < 0) = true) : Calls Try.prog 94 #[cfgV c, .int .i64 kind, .int .i64 i, .int .i64 k] w fun e w' => e = .returned (.int .i64 (-1)) ∧ Fr [] w w' := by
  rw [show cfgV c = .agg (cfgL c).toArray from rfl] at *
  generalize cfgL c = cl at *
  go_enter Try.func94, Try.ntmps94
  go_wp2
  go_ret
  exact ⟨rfl, (Fr.refl [] _).alloc _⟩
set_option maxHeartbeats 1000000 in
theorem rat_bad4 (w : World) (c : Cfg) (h : Ok c) (kind i k : Int) (hk : 0 ≤ kind ∧ kind ≤ 16) (d2 : decide (i < 0) = false) (d3 : decide (i ≥ cnt c kind) = true) : Calls Try.prog 94 #[cfgV c, .int .i64 kind, .int .i64 i, .int .i64 k] w fun e w' => e = .returned (.int .i64 (-1)) ∧ Fr [] w w' := by
  have d0 : decide (kind < 0) = false := by simp; omega
  have d1 : decide (kind > 16) = false := by simp; omega
  have HB := Lib.hid (fun w => rcount_any w c h kind hk)
  have HC := Lib.hid (fun w => reach_any w c h kind hk)
  rw [show cfgV c = .agg (cfgL c).toArray from rfl] at *
  have hsz : (cfgL c).length = 6 := rfl
  have HM := Lib.hid (Blk.new w 24 (cfgL c))
  generalize cfgL c = cl at *
  generalize cnt c kind = n, each c kind = m at *
  clear h hk
  go_enter Try.func94, Try.ntmps94
  go_wp2_with (refine wpList_load_any 24 _ rfl rfl _ 0 rfl cl _ HM.out.range Try.underlying24 rfl (by rw [hsz]; kernel_rfl) ?_)
  refine (HB.out _).mono ?_
  rintro e w1 ⟨rfl, hf⟩
  have HM1 := Lib.hid (HM.out.fr hf (by simp))
  have HF := Lib.hid (((Fr.refl [] w).alloc _).trans hf); clear hf
  go_wp2_with fail
  go_ret
  exact ⟨rfl, HF.out⟩
set_option maxHeartbeats 1000000 in
theorem rat_bad5 (w : World) (c : Cfg) (h : Ok c) (kind i k : Int) (hk : 0 ≤ kind ∧ kind ≤ 16) (d2 : decide (i < 0) = false) (d3 : decide (i ≥ cnt c kind) = false) (d4 : decide (k < 0) = true) : Calls Try.prog 94 #[cfgV c, .int .i64 kind, .int .i64 i, .int .i64 k] w fun e w' => e = .returned (.int .i64 (-1)) ∧ Fr [] w w' := by
  have d0 : decide (kind < 0) = false := by simp; omega
  have d1 : decide (kind > 16) = false := by simp; omega
  have HB := Lib.hid (fun w => rcount_any w c h kind hk)
  have HC := Lib.hid (fun w => reach_any w c h kind hk)
  rw [show cfgV c = .agg (cfgL c).toArray from rfl] at *
  have hsz : (cfgL c).length = 6 := rfl
  have HM := Lib.hid (Blk.new w 24 (cfgL c))
  generalize cfgL c = cl at *
  generalize cnt c kind = n, each c kind = m at *
  clear h hk
  go_enter Try.func94, Try.ntmps94
  go_wp2_with (refine wpList_load_any 24 _ rfl rfl _ 0 rfl cl _ HM.out.range Try.underlying24 rfl (by rw [hsz]; kernel_rfl) ?_)
  refine (HB.out _).mono ?_
  rintro e w1 ⟨rfl, hf⟩
  have HM1 := Lib.hid (HM.out.fr hf (by simp))
  have HF := Lib.hid (((Fr.refl [] w).alloc _).trans hf); clear hf
  go_wp2_with fail
  go_ret
  exact ⟨rfl, HF.out⟩
set_option maxHeartbeats 1000000 in
theorem rat_bad6 (w : World) (c : Cfg) (h : Ok c) (kind i k : Int) (hk : 0 ≤ kind ∧ kind ≤ 16) (d2 : decide (i < 0) = false) (d3 : decide (i ≥ cnt c kind) = false) (d4 : decide (k < 0) = false) (d5 : decide (k ≥ each c kind) = true) : Calls Try.prog 94 #[cfgV c, .int .i64 kind, .int .i64 i, .int .i64 k] w fun e w' => e = .returned (.int .i64 (-1)) ∧ Fr [] w w' := by
  have d0 : decide (kind < 0) = false := by simp; omega
  have d1 : decide (kind > 16) = false := by simp; omega
  have HB := Lib.hid (fun w => rcount_any w c h kind hk)
  have HC := Lib.hid (fun w => reach_any w c h kind hk)
  rw [show cfgV c = .agg (cfgL c).toArray from rfl] at *
  have hsz : (cfgL c).length = 6 := rfl
  have HM := Lib.hid (Blk.new w 24 (cfgL c))
  generalize cfgL c = cl at *
  generalize cnt c kind = n, each c kind = m at *
  clear h hk
  go_enter Try.func94, Try.ntmps94
  go_wp2_with (refine wpList_load_any 24 _ rfl rfl _ 0 rfl cl _ HM.out.range Try.underlying24 rfl (by rw [hsz]; kernel_rfl) ?_)
  refine (HB.out _).mono ?_
  rintro e w1 ⟨rfl, hf⟩
  have HM1 := Lib.hid (HM.out.fr hf (by simp))
  have HF := Lib.hid (((Fr.refl [] w).alloc _).trans hf); clear hf
  go_wp2_with (refine wpList_load_any 24 _ rfl rfl _ 0 rfl cl _ HM1.out.range Try.underlying24 rfl (by rw [hsz]; kernel_rfl) ?_)
  refine (HC.out _).mono ?_
  rintro e w2 ⟨rfl, hf⟩
  have HF2 := Lib.hid (HF.out.trans hf); clear hf
  go_wp2_with fail
  go_ret
  exact ⟨rfl, HF2.out⟩
set_option maxHeartbeats 1000000 in
theorem rat_0 (w : World) (c : Cfg) (h : Ok c) (i k : Int) (hi : Is c 0 i k) : Calls Try.prog 94 #[cfgV c, .int .i64 0, .int .i64 i, .int .i64 k] w fun e w' => e = .returned (.int .i64 (place c 0 i k)) ∧ Fr [] w w' := by
  obtain ⟨r0, r1, r2, r3, r4, r5, r6, r7, r8, r9, r10, r11, r12⟩ := row h
  have hp := (wh_place h hi).2
  have b1 := h.t8
  have b2 := h.b64
  obtain ⟨hi0, hi1, hi2, hi3⟩ := hi
  have e1 : cnt c 0 = 1 := by simp [cnt]
  have e2 : each c 0 = 1 := by simp [each]
  have e4 : eachP c 0 = each c 0 := by simp [eachP]
  obtain ⟨F, hF⟩ : ∃ F : Int, F = 0 := ⟨_, rfl⟩
  obtain ⟨st, hst⟩ : ∃ F : Int, F = each c 0 := ⟨_, rfl⟩
  have HA : Hid (∀ w, Calls Try.prog 81 #[cfgV c, .int .i64 0] w fun e w' => e = .returned (.int .i64 F) ∧ Fr [] w w') := by rw [hF]; exact fun w => rfrom_0 w c h
  have HST : Hid (∀ w, Calls Try.prog 130 #[cfgV c] w fun e w' => e = .returned (.int .i64 (stride c)) ∧ Fr [] w w') := by exact fun w => rstride_any w c h
  have hpl : place c 0 i k = F + i * st + k := by rw [hF, hst]; simp only [place, ownOf, fromP, each]; simp; try omega
  have hist : 0 ≤ i * st ∧ i * st ≤ 19000 := by
    rw [hst, e2]; omega
  have hFb : 0 ≤ F ∧ F ≤ 18100 := by
    have hs := stride_bd h
    rw [hF]; omega
  have hkb : 0 ≤ k ∧ k ≤ 3000 := by
    have := cap_bd h
    omega
  have d2 : decide (i < 0) = false := by simp; omega
  have d3 : decide (i ≥ cnt c 0) = false := by simp; omega
  have d4 : decide (k < 0) = false := by simp; omega
  have d5 : decide (k ≥ each c 0) = false := by simp; omega
  have HB := Lib.hid (fun w => rcount_any w c h 0 (by omega))
  have HC := Lib.hid (fun w => reach_any w c h 0 (by omega))
  rw [hpl]
  rw [hst] at *
  rw [show cfgV c = .agg (cfgL c).toArray from rfl] at *
  have hsz : (cfgL c).length = 6 := rfl
  have HM := Lib.hid (Blk.new w 24 (cfgL c))
  generalize cfgL c = cl at *
  generalize cnt c 0 = n, each c 0 = m at *
  clear r0 r1 r2 r3 r4 r5 r6 r7 r8 r9 r10 r11 r12 hp b1 b2 hi0 hi1 hi2 hi3 e1 e2 e4 hF hst hpl h
  go_enter Try.func94, Try.ntmps94
  go_wp2_with (refine wpList_load_any 24 _ rfl rfl _ 0 rfl cl _ HM.out.range Try.underlying24 rfl (by rw [hsz]; kernel_rfl) ?_)
  refine (HB.out _).mono ?_
  rintro e w1 ⟨rfl, hf⟩
  have HM1 := Lib.hid (HM.out.fr hf (by simp))
  have HF := Lib.hid (((Fr.refl [] w).alloc _).trans hf); clear hf HM
  go_wp2_with (refine wpList_load_any 24 _ rfl rfl _ 0 rfl cl _ HM1.out.range Try.underlying24 rfl (by rw [hsz]; kernel_rfl) ?_)
  refine (HC.out _).mono ?_
  rintro e w2 ⟨rfl, hf⟩
  have HM2 := Lib.hid (HM1.out.fr hf (by simp))
  have HF2 := Lib.hid (HF.out.trans hf); clear hf HM1 HF
  go_wp2_with (refine wpList_load_any 24 _ rfl rfl _ 0 rfl cl _ HM2.out.range Try.underlying24 rfl (by rw [hsz]; kernel_rfl) ?_)
  refine (HC.out _).mono ?_
  rintro e w3 ⟨rfl, hf⟩
  have HM3 := Lib.hid (HM2.out.fr hf (by simp))
  have HF3 := Lib.hid (HF2.out.trans hf); clear hf HM2 HF2
  go_wp2_with (refine wpList_load_any 24 _ rfl rfl _ 0 rfl cl _ HM3.out.range Try.underlying24 rfl (by rw [hsz]; kernel_rfl) ?_)
  refine (HA.out _).mono ?_
  rintro e w5 ⟨rfl, hf⟩
  have HF5 := Lib.hid (HF3.out.trans hf); clear hf
  go_wp2_with fail
  go_ret
  generalize F + i * m + k = res
  exact ⟨rfl, HF5.out⟩
set_option maxHeartbeats 1000000 in
theorem rat_1 (w : World) (c : Cfg) (h : Ok c) (i k : Int) (hi : Is c 1 i k) : Calls Try.prog 94 #[cfgV c, .int .i64 1, .int .i64 i, .int .i64 k] w fun e w' => e = .returned (.int .i64 (place c 1 i k)) ∧ Fr [] w w' := by
  obtain ⟨r0, r1, r2, r3, r4, r5, r6, r7, r8, r9, r10, r11, r12⟩ := row h
  have hp := (wh_place h hi).2
  have b1 := h.t8
  have b2 := h.b64
  obtain ⟨hi0, hi1, hi2, hi3⟩ := hi
  have e1 : cnt c 1 = c.t := by simp [cnt]
  have e2 : each c 1 = 1 := by simp [each]
  have e4 : eachP c 1 = each c 1 := by simp [eachP]
  obtain ⟨F, hF⟩ : ∃ F : Int, F = 1 := ⟨_, rfl⟩
  obtain ⟨st, hst⟩ : ∃ F : Int, F = stride c := ⟨_, rfl⟩
  have HA : Hid (∀ w, Calls Try.prog 81 #[cfgV c, .int .i64 1] w fun e w' => e = .returned (.int .i64 F) ∧ Fr [] w w') := by rw [hF]; exact fun w => rfrom_1 w c h
  have HST : Hid (∀ w, Calls Try.prog 130 #[cfgV c] w fun e w' => e = .returned (.int .i64 st) ∧ Fr [] w w') := by rw [hst];exact fun w => rstride_any w c h
  have hpl : place c 1 i k = F + i * st + k := by rw [hF, hst]; simp only [place, ownOf, fromP, each]; simp; try omega
  have hist : 0 ≤ i * st ∧ i * st ≤ 19000 := by
    have h1 := istr_bd h hi0 (by omega); have h2 := ts_bd h; have h3 := stride_bd h; rw [hst]; omega
  have hFb : 0 ≤ F ∧ F ≤ 18100 := by
    have hs := stride_bd h
    rw [hF]; omega
  have hkb : 0 ≤ k ∧ k ≤ 3000 := by
    have := cap_bd h
    omega
  have d2 : decide (i < 0) = false := by simp; omega
  have d3 : decide (i ≥ cnt c 1) = false := by simp; omega
  have d4 : decide (k < 0) = false := by simp; omega
  have d5 : decide (k ≥ each c 1) = false := by simp; omega
  have HB := Lib.hid (fun w => rcount_any w c h 1 (by omega))
  have HC := Lib.hid (fun w => reach_any w c h 1 (by omega))
  rw [hpl]
  skip
  rw [show cfgV c = .agg (cfgL c).toArray from rfl] at *
  have hsz : (cfgL c).length = 6 := rfl
  have HM := Lib.hid (Blk.new w 24 (cfgL c))
  generalize cfgL c = cl at *
  generalize cnt c 1 = n, each c 1 = m at *
  clear r0 r1 r2 r3 r4 r5 r6 r7 r8 r9 r10 r11 r12 hp b1 b2 hi0 hi1 hi2 hi3 e1 e2 e4 hF hst hpl h
  go_enter Try.func94, Try.ntmps94
  go_wp2_with (refine wpList_load_any 24 _ rfl rfl _ 0 rfl cl _ HM.out.range Try.underlying24 rfl (by rw [hsz]; kernel_rfl) ?_)
  refine (HB.out _).mono ?_
  rintro e w1 ⟨rfl, hf⟩
  have HM1 := Lib.hid (HM.out.fr hf (by simp))
  have HF := Lib.hid (((Fr.refl [] w).alloc _).trans hf); clear hf HM
  go_wp2_with (refine wpList_load_any 24 _ rfl rfl _ 0 rfl cl _ HM1.out.range Try.underlying24 rfl (by rw [hsz]; kernel_rfl) ?_)
  refine (HC.out _).mono ?_
  rintro e w2 ⟨rfl, hf⟩
  have HM2 := Lib.hid (HM1.out.fr hf (by simp))
  have HF2 := Lib.hid (HF.out.trans hf); clear hf HM1 HF
  go_wp2_with (refine wpList_load_any 24 _ rfl rfl _ 0 rfl cl _ HM2.out.range Try.underlying24 rfl (by rw [hsz]; kernel_rfl) ?_)
  refine (HC.out _).mono ?_
  rintro e w3 ⟨rfl, hf⟩
  have HM3 := Lib.hid (HM2.out.fr hf (by simp))
  have HF3 := Lib.hid (HF2.out.trans hf); clear hf HM2 HF2
  go_wp2_with (refine wpList_load_any 24 _ rfl rfl _ 0 rfl cl _ HM3.out.range Try.underlying24 rfl (by rw [hsz]; kernel_rfl) ?_)
  refine (HST.out _).mono ?_
  rintro e w4 ⟨rfl, hf⟩
  have HM4 := Lib.hid (HM3.out.fr hf (by simp))
  have HF4 := Lib.hid (HF3.out.trans hf); clear hf HM3 HF3
  go_wp2_with (refine wpList_load_any 24 _ rfl rfl _ 0 rfl cl _ HM4.out.range Try.underlying24 rfl (by rw [hsz]; kernel_rfl) ?_)
  refine (HA.out _).mono ?_
  rintro e w5 ⟨rfl, hf⟩
  have HF5 := Lib.hid (HF4.out.trans hf); clear hf
  go_wp2_with fail
  go_ret
  generalize F + i * st + k = res
  exact ⟨rfl, HF5.out⟩
set_option maxHeartbeats 1000000 in
theorem rat_2 (w : World) (c : Cfg) (h : Ok c) (i k : Int) (hi : Is c 2 i k) : Calls Try.prog 94 #[cfgV c, .int .i64 2, .int .i64 i, .int .i64 k] w fun e w' => e = .returned (.int .i64 (place c 2 i k)) ∧ Fr [] w w' := by
  obtain ⟨r0, r1, r2, r3, r4, r5, r6, r7, r8, r9, r10, r11, r12⟩ := row h
  have hp := (wh_place h hi).2
  have b1 := h.t8
  have b2 := h.b64
  obtain ⟨hi0, hi1, hi2, hi3⟩ := hi
  have e1 : cnt c 2 = c.t := by simp [cnt]
  have e2 : each c 2 = 4 := by simp [each]
  have e4 : eachP c 2 = each c 2 := by simp [eachP]
  obtain ⟨F, hF⟩ : ∃ F : Int, F = 2 := ⟨_, rfl⟩
  obtain ⟨st, hst⟩ : ∃ F : Int, F = stride c := ⟨_, rfl⟩
  have HA : Hid (∀ w, Calls Try.prog 81 #[cfgV c, .int .i64 2] w fun e w' => e = .returned (.int .i64 F) ∧ Fr [] w w') := by rw [hF]; exact fun w => rfrom_2 w c h
  have HST : Hid (∀ w, Calls Try.prog 130 #[cfgV c] w fun e w' => e = .returned (.int .i64 st) ∧ Fr [] w w') := by rw [hst];exact fun w => rstride_any w c h
  have hpl : place c 2 i k = F + i * st + k := by rw [hF, hst]; simp only [place, ownOf, fromP, each]; simp; try omega
  have hist : 0 ≤ i * st ∧ i * st ≤ 19000 := by
    have h1 := istr_bd h hi0 (by omega); have h2 := ts_bd h; have h3 := stride_bd h; rw [hst]; omega
  have hFb : 0 ≤ F ∧ F ≤ 18100 := by
    have hs := stride_bd h
    rw [hF]; omega
  have hkb : 0 ≤ k ∧ k ≤ 3000 := by
    have := cap_bd h
    omega
  have d2 : decide (i < 0) = false := by simp; omega
  have d3 : decide (i ≥ cnt c 2) = false := by simp; omega
  have d4 : decide (k < 0) = false := by simp; omega
  have d5 : decide (k ≥ each c 2) = false := by simp; omega
  have HB := Lib.hid (fun w => rcount_any w c h 2 (by omega))
  have HC := Lib.hid (fun w => reach_any w c h 2 (by omega))
  rw [hpl]
  skip
  rw [show cfgV c = .agg (cfgL c).toArray from rfl] at *
  have hsz : (cfgL c).length = 6 := rfl
  have HM := Lib.hid (Blk.new w 24 (cfgL c))
  generalize cfgL c = cl at *
  generalize cnt c 2 = n, each c 2 = m at *
  clear r0 r1 r2 r3 r4 r5 r6 r7 r8 r9 r10 r11 r12 hp b1 b2 hi0 hi1 hi2 hi3 e1 e2 e4 hF hst hpl h
  go_enter Try.func94, Try.ntmps94
  go_wp2_with (refine wpList_load_any 24 _ rfl rfl _ 0 rfl cl _ HM.out.range Try.underlying24 rfl (by rw [hsz]; kernel_rfl) ?_)
  refine (HB.out _).mono ?_
  rintro e w1 ⟨rfl, hf⟩
  have HM1 := Lib.hid (HM.out.fr hf (by simp))
  have HF := Lib.hid (((Fr.refl [] w).alloc _).trans hf); clear hf HM
  go_wp2_with (refine wpList_load_any 24 _ rfl rfl _ 0 rfl cl _ HM1.out.range Try.underlying24 rfl (by rw [hsz]; kernel_rfl) ?_)
  refine (HC.out _).mono ?_
  rintro e w2 ⟨rfl, hf⟩
  have HM2 := Lib.hid (HM1.out.fr hf (by simp))
  have HF2 := Lib.hid (HF.out.trans hf); clear hf HM1 HF
  go_wp2_with (refine wpList_load_any 24 _ rfl rfl _ 0 rfl cl _ HM2.out.range Try.underlying24 rfl (by rw [hsz]; kernel_rfl) ?_)
  refine (HC.out _).mono ?_
  rintro e w3 ⟨rfl, hf⟩
  have HM3 := Lib.hid (HM2.out.fr hf (by simp))
  have HF3 := Lib.hid (HF2.out.trans hf); clear hf HM2 HF2
  go_wp2_with (refine wpList_load_any 24 _ rfl rfl _ 0 rfl cl _ HM3.out.range Try.underlying24 rfl (by rw [hsz]; kernel_rfl) ?_)
  refine (HST.out _).mono ?_
  rintro e w4 ⟨rfl, hf⟩
  have HM4 := Lib.hid (HM3.out.fr hf (by simp))
  have HF4 := Lib.hid (HF3.out.trans hf); clear hf HM3 HF3
  go_wp2_with (refine wpList_load_any 24 _ rfl rfl _ 0 rfl cl _ HM4.out.range Try.underlying24 rfl (by rw [hsz]; kernel_rfl) ?_)
  refine (HA.out _).mono ?_
  rintro e w5 ⟨rfl, hf⟩
  have HF5 := Lib.hid (HF4.out.trans hf); clear hf
  go_wp2_with fail
  go_ret
  generalize F + i * st + k = res
  exact ⟨rfl, HF5.out⟩
set_option maxHeartbeats 1000000 in
theorem rat_3 (w : World) (c : Cfg) (h : Ok c) (i k : Int) (hi : Is c 3 i k) : Calls Try.prog 94 #[cfgV c, .int .i64 3, .int .i64 i, .int .i64 k] w fun e w' => e = .returned (.int .i64 (place c 3 i k)) ∧ Fr [] w w' := by
  obtain ⟨r0, r1, r2, r3, r4, r5, r6, r7, r8, r9, r10, r11, r12⟩ := row h
  have hp := (wh_place h hi).2
  have b1 := h.t8
  have b2 := h.b64
  obtain ⟨hi0, hi1, hi2, hi3⟩ := hi
  have e1 : cnt c 3 = c.t := by simp [cnt]
  have e2 : each c 3 = 1 := by simp [each]
  have e4 : eachP c 3 = each c 3 := by simp [eachP]
  obtain ⟨F, hF⟩ : ∃ F : Int, F = 6 := ⟨_, rfl⟩
  obtain ⟨st, hst⟩ : ∃ F : Int, F = stride c := ⟨_, rfl⟩
  have HA : Hid (∀ w, Calls Try.prog 81 #[cfgV c, .int .i64 3] w fun e w' => e = .returned (.int .i64 F) ∧ Fr [] w w') := by rw [hF]; exact fun w => rfrom_3 w c h
  have HST : Hid (∀ w, Calls Try.prog 130 #[cfgV c] w fun e w' => e = .returned (.int .i64 st) ∧ Fr [] w w') := by rw [hst];exact fun w => rstride_any w c h
  have hpl : place c 3 i k = F + i * st + k := by rw [hF, hst]; simp only [place, ownOf, fromP, each]; simp; try omega
  have hist : 0 ≤ i * st ∧ i * st ≤ 19000 := by
    have h1 := istr_bd h hi0 (by omega); have h2 := ts_bd h; have h3 := stride_bd h; rw [hst]; omega
  have hFb : 0 ≤ F ∧ F ≤ 18100 := by
    have hs := stride_bd h
    rw [hF]; omega
  have hkb : 0 ≤ k ∧ k ≤ 3000 := by
    have := cap_bd h
    omega
  have d2 : decide (i < 0) = false := by simp; omega
  have d3 : decide (i ≥ cnt c 3) = false := by simp; omega
  have d4 : decide (k < 0) = false := by simp; omega
  have d5 : decide (k ≥ each c 3) = false := by simp; omega
  have HB := Lib.hid (fun w => rcount_any w c h 3 (by omega))
  have HC := Lib.hid (fun w => reach_any w c h 3 (by omega))
  rw [hpl]
  skip
  rw [show cfgV c = .agg (cfgL c).toArray from rfl] at *
  have hsz : (cfgL c).length = 6 := rfl
  have HM := Lib.hid (Blk.new w 24 (cfgL c))
  generalize cfgL c = cl at *
  generalize cnt c 3 = n, each c 3 = m at *
  clear r0 r1 r2 r3 r4 r5 r6 r7 r8 r9 r10 r11 r12 hp b1 b2 hi0 hi1 hi2 hi3 e1 e2 e4 hF hst hpl h
  go_enter Try.func94, Try.ntmps94
  go_wp2_with (refine wpList_load_any 24 _ rfl rfl _ 0 rfl cl _ HM.out.range Try.underlying24 rfl (by rw [hsz]; kernel_rfl) ?_)
  refine (HB.out _).mono ?_
  rintro e w1 ⟨rfl, hf⟩
  have HM1 := Lib.hid (HM.out.fr hf (by simp))
  have HF := Lib.hid (((Fr.refl [] w).alloc _).trans hf); clear hf HM
  go_wp2_with (refine wpList_load_any 24 _ rfl rfl _ 0 rfl cl _ HM1.out.range Try.underlying24 rfl (by rw [hsz]; kernel_rfl) ?_)
  refine (HC.out _).mono ?_
  rintro e w2 ⟨rfl, hf⟩
  have HM2 := Lib.hid (HM1.out.fr hf (by simp))
  have HF2 := Lib.hid (HF.out.trans hf); clear hf HM1 HF
  go_wp2_with (refine wpList_load_any 24 _ rfl rfl _ 0 rfl cl _ HM2.out.range Try.underlying24 rfl (by rw [hsz]; kernel_rfl) ?_)
  refine (HC.out _).mono ?_
  rintro e w3 ⟨rfl, hf⟩
  have HM3 := Lib.hid (HM2.out.fr hf (by simp))
  have HF3 := Lib.hid (HF2.out.trans hf); clear hf HM2 HF2
  go_wp2_with (refine wpList_load_any 24 _ rfl rfl _ 0 rfl cl _ HM3.out.range Try.underlying24 rfl (by rw [hsz]; kernel_rfl) ?_)
  refine (HST.out _).mono ?_
  rintro e w4 ⟨rfl, hf⟩
  have HM4 := Lib.hid (HM3.out.fr hf (by simp))
  have HF4 := Lib.hid (HF3.out.trans hf); clear hf HM3 HF3
  go_wp2_with (refine wpList_load_any 24 _ rfl rfl _ 0 rfl cl _ HM4.out.range Try.underlying24 rfl (by rw [hsz]; kernel_rfl) ?_)
  refine (HA.out _).mono ?_
  rintro e w5 ⟨rfl, hf⟩
  have HF5 := Lib.hid (HF4.out.trans hf); clear hf
  go_wp2_with fail
  go_ret
  generalize F + i * st + k = res
  exact ⟨rfl, HF5.out⟩
set_option maxHeartbeats 1000000 in
theorem rat_4 (w : World) (c : Cfg) (h : Ok c) (i k : Int) (hi : Is c 4 i k) : Calls Try.prog 94 #[cfgV c, .int .i64 4, .int .i64 i, .int .i64 k] w fun e w' => e = .returned (.int .i64 (place c 4 i k)) ∧ Fr [] w w' := by
  obtain ⟨r0, r1, r2, r3, r4, r5, r6, r7, r8, r9, r10, r11, r12⟩ := row h
  have hp := (wh_place h hi).2
  have b1 := h.t8
  have b2 := h.b64
  obtain ⟨hi0, hi1, hi2, hi3⟩ := hi
  have e1 : cnt c 4 = c.t := by simp [cnt]
  have e2 : each c 4 = 1 := by simp [each]
  have e4 : eachP c 4 = each c 4 := by simp [eachP]
  obtain ⟨F, hF⟩ : ∃ F : Int, F = 7 := ⟨_, rfl⟩
  obtain ⟨st, hst⟩ : ∃ F : Int, F = stride c := ⟨_, rfl⟩
  have HA : Hid (∀ w, Calls Try.prog 81 #[cfgV c, .int .i64 4] w fun e w' => e = .returned (.int .i64 F) ∧ Fr [] w w') := by rw [hF]; exact fun w => rfrom_4 w c h
  have HST : Hid (∀ w, Calls Try.prog 130 #[cfgV c] w fun e w' => e = .returned (.int .i64 st) ∧ Fr [] w w') := by rw [hst];exact fun w => rstride_any w c h
  have hpl : place c 4 i k = F + i * st + k := by rw [hF, hst]; simp only [place, ownOf, fromP, each]; simp; try omega
  have hist : 0 ≤ i * st ∧ i * st ≤ 19000 := by
    have h1 := istr_bd h hi0 (by omega); have h2 := ts_bd h; have h3 := stride_bd h; rw [hst]; omega
  have hFb : 0 ≤ F ∧ F ≤ 18100 := by
    have hs := stride_bd h
    rw [hF]; omega
  have hkb : 0 ≤ k ∧ k ≤ 3000 := by
    have := cap_bd h
    omega
  have d2 : decide (i < 0) = false := by simp; omega
  have d3 : decide (i ≥ cnt c 4) = false := by simp; omega
  have d4 : decide (k < 0) = false := by simp; omega
  have d5 : decide (k ≥ each c 4) = false := by simp; omega
  have HB := Lib.hid (fun w => rcount_any w c h 4 (by omega))
  have HC := Lib.hid (fun w => reach_any w c h 4 (by omega))
  rw [hpl]
  skip
  rw [show cfgV c = .agg (cfgL c).toArray from rfl] at *
  have hsz : (cfgL c).length = 6 := rfl
  have HM := Lib.hid (Blk.new w 24 (cfgL c))
  generalize cfgL c = cl at *
  generalize cnt c 4 = n, each c 4 = m at *
  clear r0 r1 r2 r3 r4 r5 r6 r7 r8 r9 r10 r11 r12 hp b1 b2 hi0 hi1 hi2 hi3 e1 e2 e4 hF hst hpl h
  go_enter Try.func94, Try.ntmps94
  go_wp2_with (refine wpList_load_any 24 _ rfl rfl _ 0 rfl cl _ HM.out.range Try.underlying24 rfl (by rw [hsz]; kernel_rfl) ?_)
  refine (HB.out _).mono ?_
  rintro e w1 ⟨rfl, hf⟩
  have HM1 := Lib.hid (HM.out.fr hf (by simp))
  have HF := Lib.hid (((Fr.refl [] w).alloc _).trans hf); clear hf HM
  go_wp2_with (refine wpList_load_any 24 _ rfl rfl _ 0 rfl cl _ HM1.out.range Try.underlying24 rfl (by rw [hsz]; kernel_rfl) ?_)
  refine (HC.out _).mono ?_
  rintro e w2 ⟨rfl, hf⟩
  have HM2 := Lib.hid (HM1.out.fr hf (by simp))
  have HF2 := Lib.hid (HF.out.trans hf); clear hf HM1 HF
  go_wp2_with (refine wpList_load_any 24 _ rfl rfl _ 0 rfl cl _ HM2.out.range Try.underlying24 rfl (by rw [hsz]; kernel_rfl) ?_)
  refine (HC.out _).mono ?_
  rintro e w3 ⟨rfl, hf⟩
  have HM3 := Lib.hid (HM2.out.fr hf (by simp))
  have HF3 := Lib.hid (HF2.out.trans hf); clear hf HM2 HF2
  go_wp2_with (refine wpList_load_any 24 _ rfl rfl _ 0 rfl cl _ HM3.out.range Try.underlying24 rfl (by rw [hsz]; kernel_rfl) ?_)
  refine (HST.out _).mono ?_
  rintro e w4 ⟨rfl, hf⟩
  have HM4 := Lib.hid (HM3.out.fr hf (by simp))
  have HF4 := Lib.hid (HF3.out.trans hf); clear hf HM3 HF3
  go_wp2_with (refine wpList_load_any 24 _ rfl rfl _ 0 rfl cl _ HM4.out.range Try.underlying24 rfl (by rw [hsz]; kernel_rfl) ?_)
  refine (HA.out _).mono ?_
  rintro e w5 ⟨rfl, hf⟩
  have HF5 := Lib.hid (HF4.out.trans hf); clear hf
  go_wp2_with fail
  go_ret
  generalize F + i * st + k = res
  exact ⟨rfl, HF5.out⟩
set_option maxHeartbeats 1000000 in
theorem rat_5 (w : World) (c : Cfg) (h : Ok c) (i k : Int) (hi : Is c 5 i k) : Calls Try.prog 94 #[cfgV c, .int .i64 5, .int .i64 i, .int .i64 k] w fun e w' => e = .returned (.int .i64 (place c 5 i k)) ∧ Fr [] w w' := by
  obtain ⟨r0, r1, r2, r3, r4, r5, r6, r7, r8, r9, r10, r11, r12⟩ := row h
  have hp := (wh_place h hi).2
  have b1 := h.t8
  have b2 := h.b64
  obtain ⟨hi0, hi1, hi2, hi3⟩ := hi
  have e1 : cnt c 5 = c.t := by simp [cnt]
  have e2 : each c 5 = 1 := by simp [each]
  have e4 : eachP c 5 = each c 5 := by simp [eachP]
  obtain ⟨F, hF⟩ : ∃ F : Int, F = 8 := ⟨_, rfl⟩
  obtain ⟨st, hst⟩ : ∃ F : Int, F = stride c := ⟨_, rfl⟩
  have HA : Hid (∀ w, Calls Try.prog 81 #[cfgV c, .int .i64 5] w fun e w' => e = .returned (.int .i64 F) ∧ Fr [] w w') := by rw [hF]; exact fun w => rfrom_5 w c h
  have HST : Hid (∀ w, Calls Try.prog 130 #[cfgV c] w fun e w' => e = .returned (.int .i64 st) ∧ Fr [] w w') := by rw [hst];exact fun w => rstride_any w c h
  have hpl : place c 5 i k = F + i * st + k := by rw [hF, hst]; simp only [place, ownOf, fromP, each]; simp; try omega
  have hist : 0 ≤ i * st ∧ i * st ≤ 19000 := by
    have h1 := istr_bd h hi0 (by omega); have h2 := ts_bd h; have h3 := stride_bd h; rw [hst]; omega
  have hFb : 0 ≤ F ∧ F ≤ 18100 := by
    have hs := stride_bd h
    rw [hF]; omega
  have hkb : 0 ≤ k ∧ k ≤ 3000 := by
    have := cap_bd h
    omega
  have d2 : decide (i < 0) = false := by simp; omega
  have d3 : decide (i ≥ cnt c 5) = false := by simp; omega
  have d4 : decide (k < 0) = false := by simp; omega
  have d5 : decide (k ≥ each c 5) = false := by simp; omega
  have HB := Lib.hid (fun w => rcount_any w c h 5 (by omega))
  have HC := Lib.hid (fun w => reach_any w c h 5 (by omega))
  rw [hpl]
  skip
  rw [show cfgV c = .agg (cfgL c).toArray from rfl] at *
  have hsz : (cfgL c).length = 6 := rfl
  have HM := Lib.hid (Blk.new w 24 (cfgL c))
  generalize cfgL c = cl at *
  generalize cnt c 5 = n, each c 5 = m at *
  clear r0 r1 r2 r3 r4 r5 r6 r7 r8 r9 r10 r11 r12 hp b1 b2 hi0 hi1 hi2 hi3 e1 e2 e4 hF hst hpl h
  go_enter Try.func94, Try.ntmps94
  go_wp2_with (refine wpList_load_any 24 _ rfl rfl _ 0 rfl cl _ HM.out.range Try.underlying24 rfl (by rw [hsz]; kernel_rfl) ?_)
  refine (HB.out _).mono ?_
  rintro e w1 ⟨rfl, hf⟩
  have HM1 := Lib.hid (HM.out.fr hf (by simp))
  have HF := Lib.hid (((Fr.refl [] w).alloc _).trans hf); clear hf HM
  go_wp2_with (refine wpList_load_any 24 _ rfl rfl _ 0 rfl cl _ HM1.out.range Try.underlying24 rfl (by rw [hsz]; kernel_rfl) ?_)
  refine (HC.out _).mono ?_
  rintro e w2 ⟨rfl, hf⟩
  have HM2 := Lib.hid (HM1.out.fr hf (by simp))
  have HF2 := Lib.hid (HF.out.trans hf); clear hf HM1 HF
  go_wp2_with (refine wpList_load_any 24 _ rfl rfl _ 0 rfl cl _ HM2.out.range Try.underlying24 rfl (by rw [hsz]; kernel_rfl) ?_)
  refine (HC.out _).mono ?_
  rintro e w3 ⟨rfl, hf⟩
  have HM3 := Lib.hid (HM2.out.fr hf (by simp))
  have HF3 := Lib.hid (HF2.out.trans hf); clear hf HM2 HF2
  go_wp2_with (refine wpList_load_any 24 _ rfl rfl _ 0 rfl cl _ HM3.out.range Try.underlying24 rfl (by rw [hsz]; kernel_rfl) ?_)
  refine (HST.out _).mono ?_
  rintro e w4 ⟨rfl, hf⟩
  have HM4 := Lib.hid (HM3.out.fr hf (by simp))
  have HF4 := Lib.hid (HF3.out.trans hf); clear hf HM3 HF3
  go_wp2_with (refine wpList_load_any 24 _ rfl rfl _ 0 rfl cl _ HM4.out.range Try.underlying24 rfl (by rw [hsz]; kernel_rfl) ?_)
  refine (HA.out _).mono ?_
  rintro e w5 ⟨rfl, hf⟩
  have HF5 := Lib.hid (HF4.out.trans hf); clear hf
  go_wp2_with fail
  go_ret
  generalize F + i * st + k = res
  exact ⟨rfl, HF5.out⟩
set_option maxHeartbeats 1000000 in
theorem rat_6 (w : World) (c : Cfg) (h : Ok c) (i k : Int) (hi : Is c 6 i k) : Calls Try.prog 94 #[cfgV c, .int .i64 6, .int .i64 i, .int .i64 k] w fun e w' => e = .returned (.int .i64 (place c 6 i k)) ∧ Fr [] w w' := by
  obtain ⟨r0, r1, r2, r3, r4, r5, r6, r7, r8, r9, r10, r11, r12⟩ := row h
  have hp := (wh_place h hi).2
  have b1 := h.t8
  have b2 := h.b64
  obtain ⟨hi0, hi1, hi2, hi3⟩ := hi
  have e1 : cnt c 6 = c.t := by simp [cnt]
  have e2 : each c 6 = cap c := by simp [each]
  have e4 : eachP c 6 = each c 6 := by simp [eachP]
  obtain ⟨F, hF⟩ : ∃ F : Int, F = 9 := ⟨_, rfl⟩
  obtain ⟨st, hst⟩ : ∃ F : Int, F = stride c := ⟨_, rfl⟩
  have HA : Hid (∀ w, Calls Try.prog 81 #[cfgV c, .int .i64 6] w fun e w' => e = .returned (.int .i64 F) ∧ Fr [] w w') := by rw [hF]; exact fun w => rfrom_6 w c h
  have HST : Hid (∀ w, Calls Try.prog 130 #[cfgV c] w fun e w' => e = .returned (.int .i64 st) ∧ Fr [] w w') := by rw [hst];exact fun w => rstride_any w c h
  have hpl : place c 6 i k = F + i * st + k := by rw [hF, hst]; simp only [place, ownOf, fromP, each]; simp; try omega
  have hist : 0 ≤ i * st ∧ i * st ≤ 19000 := by
    have h1 := istr_bd h hi0 (by omega); have h2 := ts_bd h; have h3 := stride_bd h; rw [hst]; omega
  have hFb : 0 ≤ F ∧ F ≤ 18100 := by
    have hs := stride_bd h
    rw [hF]; omega
  have hkb : 0 ≤ k ∧ k ≤ 3000 := by
    have := cap_bd h
    omega
  have d2 : decide (i < 0) = false := by simp; omega
  have d3 : decide (i ≥ cnt c 6) = false := by simp; omega
  have d4 : decide (k < 0) = false := by simp; omega
  have d5 : decide (k ≥ each c 6) = false := by simp; omega
  have HB := Lib.hid (fun w => rcount_any w c h 6 (by omega))
  have HC := Lib.hid (fun w => reach_any w c h 6 (by omega))
  rw [hpl]
  skip
  rw [show cfgV c = .agg (cfgL c).toArray from rfl] at *
  have hsz : (cfgL c).length = 6 := rfl
  have HM := Lib.hid (Blk.new w 24 (cfgL c))
  generalize cfgL c = cl at *
  generalize cnt c 6 = n, each c 6 = m at *
  clear r0 r1 r2 r3 r4 r5 r6 r7 r8 r9 r10 r11 r12 hp b1 b2 hi0 hi1 hi2 hi3 e1 e2 e4 hF hst hpl h
  go_enter Try.func94, Try.ntmps94
  go_wp2_with (refine wpList_load_any 24 _ rfl rfl _ 0 rfl cl _ HM.out.range Try.underlying24 rfl (by rw [hsz]; kernel_rfl) ?_)
  refine (HB.out _).mono ?_
  rintro e w1 ⟨rfl, hf⟩
  have HM1 := Lib.hid (HM.out.fr hf (by simp))
  have HF := Lib.hid (((Fr.refl [] w).alloc _).trans hf); clear hf HM
  go_wp2_with (refine wpList_load_any 24 _ rfl rfl _ 0 rfl cl _ HM1.out.range Try.underlying24 rfl (by rw [hsz]; kernel_rfl) ?_)
  refine (HC.out _).mono ?_
  rintro e w2 ⟨rfl, hf⟩
  have HM2 := Lib.hid (HM1.out.fr hf (by simp))
  have HF2 := Lib.hid (HF.out.trans hf); clear hf HM1 HF
  go_wp2_with (refine wpList_load_any 24 _ rfl rfl _ 0 rfl cl _ HM2.out.range Try.underlying24 rfl (by rw [hsz]; kernel_rfl) ?_)
  refine (HC.out _).mono ?_
  rintro e w3 ⟨rfl, hf⟩
  have HM3 := Lib.hid (HM2.out.fr hf (by simp))
  have HF3 := Lib.hid (HF2.out.trans hf); clear hf HM2 HF2
  go_wp2_with (refine wpList_load_any 24 _ rfl rfl _ 0 rfl cl _ HM3.out.range Try.underlying24 rfl (by rw [hsz]; kernel_rfl) ?_)
  refine (HST.out _).mono ?_
  rintro e w4 ⟨rfl, hf⟩
  have HM4 := Lib.hid (HM3.out.fr hf (by simp))
  have HF4 := Lib.hid (HF3.out.trans hf); clear hf HM3 HF3
  go_wp2_with (refine wpList_load_any 24 _ rfl rfl _ 0 rfl cl _ HM4.out.range Try.underlying24 rfl (by rw [hsz]; kernel_rfl) ?_)
  refine (HA.out _).mono ?_
  rintro e w5 ⟨rfl, hf⟩
  have HF5 := Lib.hid (HF4.out.trans hf); clear hf
  go_wp2_with fail
  go_ret
  generalize F + i * st + k = res
  exact ⟨rfl, HF5.out⟩
set_option maxHeartbeats 1000000 in
theorem rat_7 (w : World) (c : Cfg) (h : Ok c) (i k : Int) (hi : Is c 7 i k) : Calls Try.prog 94 #[cfgV c, .int .i64 7, .int .i64 i, .int .i64 k] w fun e w' => e = .returned (.int .i64 (place c 7 i k)) ∧ Fr [] w w' := by
  obtain ⟨r0, r1, r2, r3, r4, r5, r6, r7, r8, r9, r10, r11, r12⟩ := row h
  have hp := (wh_place h hi).2
  have b1 := h.t8
  have b2 := h.b64
  obtain ⟨hi0, hi1, hi2, hi3⟩ := hi
  have e1 : cnt c 7 = c.t := by simp [cnt]
  have e2 : each c 7 = 1 := by simp [each]
  have e4 : eachP c 7 = each c 7 := by simp [eachP]
  obtain ⟨F, hF⟩ : ∃ F : Int, F = fTag c := ⟨_, rfl⟩
  obtain ⟨st, hst⟩ : ∃ F : Int, F = 3 := ⟨_, rfl⟩
  have HA : Hid (∀ w, Calls Try.prog 81 #[cfgV c, .int .i64 7] w fun e w' => e = .returned (.int .i64 F) ∧ Fr [] w w') := by rw [hF]; exact fun w => rfrom_7 w c h
  have HST : Hid (∀ w, Calls Try.prog 130 #[cfgV c] w fun e w' => e = .returned (.int .i64 (stride c)) ∧ Fr [] w w') := by exact fun w => rstride_any w c h
  have hpl : place c 7 i k = F + i * st + k := by rw [hF, hst]; simp only [place, ownOf, fromP, each]; simp; try omega
  have hist : 0 ≤ i * st ∧ i * st ≤ 19000 := by
    rw [hst]; omega
  have hFb : 0 ≤ F ∧ F ≤ 18100 := by
    have hs := stride_bd h
    rw [hF]; omega
  have hkb : 0 ≤ k ∧ k ≤ 3000 := by
    have := cap_bd h
    omega
  have d2 : decide (i < 0) = false := by simp; omega
  have d3 : decide (i ≥ cnt c 7) = false := by simp; omega
  have d4 : decide (k < 0) = false := by simp; omega
  have d5 : decide (k ≥ each c 7) = false := by simp; omega
  have HB := Lib.hid (fun w => rcount_any w c h 7 (by omega))
  have HC := Lib.hid (fun w => reach_any w c h 7 (by omega))
  rw [hpl]
  rw [hst] at *
  rw [show cfgV c = .agg (cfgL c).toArray from rfl] at *
  have hsz : (cfgL c).length = 6 := rfl
  have HM := Lib.hid (Blk.new w 24 (cfgL c))
  generalize cfgL c = cl at *
  generalize cnt c 7 = n, each c 7 = m at *
  clear r0 r1 r2 r3 r4 r5 r6 r7 r8 r9 r10 r11 r12 hp b1 b2 hi0 hi1 hi2 hi3 e1 e2 e4 hF hst hpl h
  go_enter Try.func94, Try.ntmps94
  go_wp2_with (refine wpList_load_any 24 _ rfl rfl _ 0 rfl cl _ HM.out.range Try.underlying24 rfl (by rw [hsz]; kernel_rfl) ?_)
  refine (HB.out _).mono ?_
  rintro e w1 ⟨rfl, hf⟩
  have HM1 := Lib.hid (HM.out.fr hf (by simp))
  have HF := Lib.hid (((Fr.refl [] w).alloc _).trans hf); clear hf HM
  go_wp2_with (refine wpList_load_any 24 _ rfl rfl _ 0 rfl cl _ HM1.out.range Try.underlying24 rfl (by rw [hsz]; kernel_rfl) ?_)
  refine (HC.out _).mono ?_
  rintro e w2 ⟨rfl, hf⟩
  have HM2 := Lib.hid (HM1.out.fr hf (by simp))
  have HF2 := Lib.hid (HF.out.trans hf); clear hf HM1 HF
  go_wp2_with (refine wpList_load_any 24 _ rfl rfl _ 0 rfl cl _ HM2.out.range Try.underlying24 rfl (by rw [hsz]; kernel_rfl) ?_)
  refine (HC.out _).mono ?_
  rintro e w3 ⟨rfl, hf⟩
  have HM3 := Lib.hid (HM2.out.fr hf (by simp))
  have HF3 := Lib.hid (HF2.out.trans hf); clear hf HM2 HF2
  go_wp2_with (refine wpList_load_any 24 _ rfl rfl _ 0 rfl cl _ HM3.out.range Try.underlying24 rfl (by rw [hsz]; kernel_rfl) ?_)
  refine (HA.out _).mono ?_
  rintro e w5 ⟨rfl, hf⟩
  have HF5 := Lib.hid (HF3.out.trans hf); clear hf
  go_wp2_with fail
  go_ret
  generalize F + i * 3 + k = res
  exact ⟨rfl, HF5.out⟩
set_option maxHeartbeats 1000000 in
theorem rat_8 (w : World) (c : Cfg) (h : Ok c) (i k : Int) (hi : Is c 8 i k) : Calls Try.prog 94 #[cfgV c, .int .i64 8, .int .i64 i, .int .i64 k] w fun e w' => e = .returned (.int .i64 (place c 8 i k)) ∧ Fr [] w w' := by
  obtain ⟨r0, r1, r2, r3, r4, r5, r6, r7, r8, r9, r10, r11, r12⟩ := row h
  have hp := (wh_place h hi).2
  have b1 := h.t8
  have b2 := h.b64
  obtain ⟨hi0, hi1, hi2, hi3⟩ := hi
  have e1 : cnt c 8 = c.t := by simp [cnt]
  have e2 : each c 8 = 1 := by simp [each]
  have e4 : eachP c 8 = each c 8 := by simp [eachP]
  obtain ⟨F, hF⟩ : ∃ F : Int, F = fTag c + 8 - 7 := ⟨_, rfl⟩
  obtain ⟨st, hst⟩ : ∃ F : Int, F = 3 := ⟨_, rfl⟩
  have HA : Hid (∀ w, Calls Try.prog 81 #[cfgV c, .int .i64 8] w fun e w' => e = .returned (.int .i64 F) ∧ Fr [] w w') := by rw [hF]; exact fun w => rfrom_8 w c h
  have HST : Hid (∀ w, Calls Try.prog 130 #[cfgV c] w fun e w' => e = .returned (.int .i64 (stride c)) ∧ Fr [] w w') := by exact fun w => rstride_any w c h
  have hpl : place c 8 i k = F + i * st + k := by rw [hF, hst]; simp only [place, ownOf, fromP, each]; simp; try omega
  have hist : 0 ≤ i * st ∧ i * st ≤ 19000 := by
    rw [hst]; omega
  have hFb : 0 ≤ F ∧ F ≤ 18100 := by
    have hs := stride_bd h
    rw [hF]; omega
  have hkb : 0 ≤ k ∧ k ≤ 3000 := by
    have := cap_bd h
    omega
  have d2 : decide (i < 0) = false := by simp; omega
  have d3 : decide (i ≥ cnt c 8) = false := by simp; omega
  have d4 : decide (k < 0) = false := by simp; omega
  have d5 : decide (k ≥ each c 8) = false := by simp; omega
  have HB := Lib.hid (fun w => rcount_any w c h 8 (by omega))
  have HC := Lib.hid (fun w => reach_any w c h 8 (by omega))
  rw [hpl]
  rw [hst] at *
  rw [show cfgV c = .agg (cfgL c).toArray from rfl] at *
  have hsz : (cfgL c).length = 6 := rfl
  have HM := Lib.hid (Blk.new w 24 (cfgL c))
  generalize cfgL c = cl at *
  generalize cnt c 8 = n, each c 8 = m at *
  clear r0 r1 r2 r3 r4 r5 r6 r7 r8 r9 r10 r11 r12 hp b1 b2 hi0 hi1 hi2 hi3 e1 e2 e4 hF hst hpl h
  go_enter Try.func94, Try.ntmps94
  go_wp2_with (refine wpList_load_any 24 _ rfl rfl _ 0 rfl cl _ HM.out.range Try.underlying24 rfl (by rw [hsz]; kernel_rfl) ?_)
  refine (HB.out _).mono ?_
  rintro e w1 ⟨rfl, hf⟩
  have HM1 := Lib.hid (HM.out.fr hf (by simp))
  have HF := Lib.hid (((Fr.refl [] w).alloc _).trans hf); clear hf HM
  go_wp2_with (refine wpList_load_any 24 _ rfl rfl _ 0 rfl cl _ HM1.out.range Try.underlying24 rfl (by rw [hsz]; kernel_rfl) ?_)
  refine (HC.out _).mono ?_
  rintro e w2 ⟨rfl, hf⟩
  have HM2 := Lib.hid (HM1.out.fr hf (by simp))
  have HF2 := Lib.hid (HF.out.trans hf); clear hf HM1 HF
  go_wp2_with (refine wpList_load_any 24 _ rfl rfl _ 0 rfl cl _ HM2.out.range Try.underlying24 rfl (by rw [hsz]; kernel_rfl) ?_)
  refine (HC.out _).mono ?_
  rintro e w3 ⟨rfl, hf⟩
  have HM3 := Lib.hid (HM2.out.fr hf (by simp))
  have HF3 := Lib.hid (HF2.out.trans hf); clear hf HM2 HF2
  go_wp2_with (refine wpList_load_any 24 _ rfl rfl _ 0 rfl cl _ HM3.out.range Try.underlying24 rfl (by rw [hsz]; kernel_rfl) ?_)
  refine (HA.out _).mono ?_
  rintro e w5 ⟨rfl, hf⟩
  have HF5 := Lib.hid (HF3.out.trans hf); clear hf
  go_wp2_with fail
  go_ret
  generalize F + i * 3 + k = res
  exact ⟨rfl, HF5.out⟩
set_option maxHeartbeats 1000000 in
theorem rat_9 (w : World) (c : Cfg) (h : Ok c) (i k : Int) (hi : Is c 9 i k) : Calls Try.prog 94 #[cfgV c, .int .i64 9, .int .i64 i, .int .i64 k] w fun e w' => e = .returned (.int .i64 (place c 9 i k)) ∧ Fr [] w w' := by
  obtain ⟨r0, r1, r2, r3, r4, r5, r6, r7, r8, r9, r10, r11, r12⟩ := row h
  have hp := (wh_place h hi).2
  have b1 := h.t8
  have b2 := h.b64
  obtain ⟨hi0, hi1, hi2, hi3⟩ := hi
  have e1 : cnt c 9 = c.t := by simp [cnt]
  have e2 : each c 9 = 1 := by simp [each]
  have e4 : eachP c 9 = each c 9 := by simp [eachP]
  obtain ⟨F, hF⟩ : ∃ F : Int, F = fTag c + 9 - 7 := ⟨_, rfl⟩
  obtain ⟨st, hst⟩ : ∃ F : Int, F = 3 := ⟨_, rfl⟩
  have HA : Hid (∀ w, Calls Try.prog 81 #[cfgV c, .int .i64 9] w fun e w' => e = .returned (.int .i64 F) ∧ Fr [] w w') := by rw [hF]; exact fun w => rfrom_9 w c h
  have HST : Hid (∀ w, Calls Try.prog 130 #[cfgV c] w fun e w' => e = .returned (.int .i64 (stride c)) ∧ Fr [] w w') := by exact fun w => rstride_any w c h
  have hpl : place c 9 i k = F + i * st + k := by rw [hF, hst]; simp only [place, ownOf, fromP, each]; simp; try omega
  have hist : 0 ≤ i * st ∧ i * st ≤ 19000 := by
    rw [hst]; omega
  have hFb : 0 ≤ F ∧ F ≤ 18100 := by
    have hs := stride_bd h
    rw [hF]; omega
  have hkb : 0 ≤ k ∧ k ≤ 3000 := by
    have := cap_bd h
    omega
  have d2 : decide (i < 0) = false := by simp; omega
  have d3 : decide (i ≥ cnt c 9) = false := by simp; omega
  have d4 : decide (k < 0) = false := by simp; omega
  have d5 : decide (k ≥ each c 9) = false := by simp; omega
  have HB := Lib.hid (fun w => rcount_any w c h 9 (by omega))
  have HC := Lib.hid (fun w => reach_any w c h 9 (by omega))
  rw [hpl]
  rw [hst] at *
  rw [show cfgV c = .agg (cfgL c).toArray from rfl] at *
  have hsz : (cfgL c).length = 6 := rfl
  have HM := Lib.hid (Blk.new w 24 (cfgL c))
  generalize cfgL c = cl at *
  generalize cnt c 9 = n, each c 9 = m at *
  clear r0 r1 r2 r3 r4 r5 r6 r7 r8 r9 r10 r11 r12 hp b1 b2 hi0 hi1 hi2 hi3 e1 e2 e4 hF hst hpl h
  go_enter Try.func94, Try.ntmps94
  go_wp2_with (refine wpList_load_any 24 _ rfl rfl _ 0 rfl cl _ HM.out.range Try.underlying24 rfl (by rw [hsz]; kernel_rfl) ?_)
  refine (HB.out _).mono ?_
  rintro e w1 ⟨rfl, hf⟩
  have HM1 := Lib.hid (HM.out.fr hf (by simp))
  have HF := Lib.hid (((Fr.refl [] w).alloc _).trans hf); clear hf HM
  go_wp2_with (refine wpList_load_any 24 _ rfl rfl _ 0 rfl cl _ HM1.out.range Try.underlying24 rfl (by rw [hsz]; kernel_rfl) ?_)
  refine (HC.out _).mono ?_
  rintro e w2 ⟨rfl, hf⟩
  have HM2 := Lib.hid (HM1.out.fr hf (by simp))
  have HF2 := Lib.hid (HF.out.trans hf); clear hf HM1 HF
  go_wp2_with (refine wpList_load_any 24 _ rfl rfl _ 0 rfl cl _ HM2.out.range Try.underlying24 rfl (by rw [hsz]; kernel_rfl) ?_)
  refine (HC.out _).mono ?_
  rintro e w3 ⟨rfl, hf⟩
  have HM3 := Lib.hid (HM2.out.fr hf (by simp))
  have HF3 := Lib.hid (HF2.out.trans hf); clear hf HM2 HF2
  go_wp2_with (refine wpList_load_any 24 _ rfl rfl _ 0 rfl cl _ HM3.out.range Try.underlying24 rfl (by rw [hsz]; kernel_rfl) ?_)
  refine (HA.out _).mono ?_
  rintro e w5 ⟨rfl, hf⟩
  have HF5 := Lib.hid (HF3.out.trans hf); clear hf
  go_wp2_with fail
  go_ret
  generalize F + i * 3 + k = res
  exact ⟨rfl, HF5.out⟩
set_option maxHeartbeats 1000000 in
theorem rat_10 (w : World) (c : Cfg) (h : Ok c) (i k : Int) (hi : Is c 10 i k) : Calls Try.prog 94 #[cfgV c, .int .i64 10, .int .i64 i, .int .i64 k] w fun e w' => e = .returned (.int .i64 (place c 10 i k)) ∧ Fr [] w w' := by
  obtain ⟨r0, r1, r2, r3, r4, r5, r6, r7, r8, r9, r10, r11, r12⟩ := row h
  have hp := (wh_place h hi).2
  have b1 := h.t8
  have b2 := h.b64
  obtain ⟨hi0, hi1, hi2, hi3⟩ := hi
  have e1 : cnt c 10 = 16 := by simp [cnt]
  have e2 : each c 10 = 1 := by simp [each]
  have e4 : eachP c 10 = each c 10 := by simp [eachP]
  obtain ⟨F, hF⟩ : ∃ F : Int, F = fRoot c := ⟨_, rfl⟩
  obtain ⟨st, hst⟩ : ∃ F : Int, F = each c 10 := ⟨_, rfl⟩
  have HA : Hid (∀ w, Calls Try.prog 81 #[cfgV c, .int .i64 10] w fun e w' => e = .returned (.int .i64 F) ∧ Fr [] w w') := by rw [hF]; exact fun w => rfrom_10 w c h
  have HST : Hid (∀ w, Calls Try.prog 130 #[cfgV c] w fun e w' => e = .returned (.int .i64 (stride c)) ∧ Fr [] w w') := by exact fun w => rstride_any w c h
  have hpl : place c 10 i k = F + i * st + k := by rw [hF, hst]; simp only [place, ownOf, fromP, each]; simp; try omega
  have hist : 0 ≤ i * st ∧ i * st ≤ 19000 := by
    rw [hst, e2]; omega
  have hFb : 0 ≤ F ∧ F ≤ 18100 := by
    have hs := stride_bd h
    rw [hF]; omega
  have hkb : 0 ≤ k ∧ k ≤ 3000 := by
    have := cap_bd h
    omega
  have d2 : decide (i < 0) = false := by simp; omega
  have d3 : decide (i ≥ cnt c 10) = false := by simp; omega
  have d4 : decide (k < 0) = false := by simp; omega
  have d5 : decide (k ≥ each c 10) = false := by simp; omega
  have HB := Lib.hid (fun w => rcount_any w c h 10 (by omega))
  have HC := Lib.hid (fun w => reach_any w c h 10 (by omega))
  rw [hpl]
  rw [hst] at *
  rw [show cfgV c = .agg (cfgL c).toArray from rfl] at *
  have hsz : (cfgL c).length = 6 := rfl
  have HM := Lib.hid (Blk.new w 24 (cfgL c))
  generalize cfgL c = cl at *
  generalize cnt c 10 = n, each c 10 = m at *
  clear r0 r1 r2 r3 r4 r5 r6 r7 r8 r9 r10 r11 r12 hp b1 b2 hi0 hi1 hi2 hi3 e1 e2 e4 hF hst hpl h
  go_enter Try.func94, Try.ntmps94
  go_wp2_with (refine wpList_load_any 24 _ rfl rfl _ 0 rfl cl _ HM.out.range Try.underlying24 rfl (by rw [hsz]; kernel_rfl) ?_)
  refine (HB.out _).mono ?_
  rintro e w1 ⟨rfl, hf⟩
  have HM1 := Lib.hid (HM.out.fr hf (by simp))
  have HF := Lib.hid (((Fr.refl [] w).alloc _).trans hf); clear hf HM
  go_wp2_with (refine wpList_load_any 24 _ rfl rfl _ 0 rfl cl _ HM1.out.range Try.underlying24 rfl (by rw [hsz]; kernel_rfl) ?_)
  refine (HC.out _).mono ?_
  rintro e w2 ⟨rfl, hf⟩
  have HM2 := Lib.hid (HM1.out.fr hf (by simp))
  have HF2 := Lib.hid (HF.out.trans hf); clear hf HM1 HF
  go_wp2_with (refine wpList_load_any 24 _ rfl rfl _ 0 rfl cl _ HM2.out.range Try.underlying24 rfl (by rw [hsz]; kernel_rfl) ?_)
  refine (HC.out _).mono ?_
  rintro e w3 ⟨rfl, hf⟩
  have HM3 := Lib.hid (HM2.out.fr hf (by simp))
  have HF3 := Lib.hid (HF2.out.trans hf); clear hf HM2 HF2
  go_wp2_with (refine wpList_load_any 24 _ rfl rfl _ 0 rfl cl _ HM3.out.range Try.underlying24 rfl (by rw [hsz]; kernel_rfl) ?_)
  refine (HA.out _).mono ?_
  rintro e w5 ⟨rfl, hf⟩
  have HF5 := Lib.hid (HF3.out.trans hf); clear hf
  go_wp2_with fail
  go_ret
  generalize F + i * m + k = res
  exact ⟨rfl, HF5.out⟩
set_option maxHeartbeats 1000000 in
theorem rat_11 (w : World) (c : Cfg) (h : Ok c) (i k : Int) (hi : Is c 11 i k) : Calls Try.prog 94 #[cfgV c, .int .i64 11, .int .i64 i, .int .i64 k] w fun e w' => e = .returned (.int .i64 (place c 11 i k)) ∧ Fr [] w w' := by
  obtain ⟨r0, r1, r2, r3, r4, r5, r6, r7, r8, r9, r10, r11, r12⟩ := row h
  have hp := (wh_place h hi).2
  have b1 := h.t8
  have b2 := h.b64
  obtain ⟨hi0, hi1, hi2, hi3⟩ := hi
  have e1 : cnt c 11 = c.b := by simp [cnt]
  have e2 : each c 11 = 1 := by simp [each]
  have e4 : eachP c 11 = each c 11 := by simp [eachP]
  obtain ⟨F, hF⟩ : ∃ F : Int, F = fLife c := ⟨_, rfl⟩
  obtain ⟨st, hst⟩ : ∃ F : Int, F = each c 11 := ⟨_, rfl⟩
  have HA : Hid (∀ w, Calls Try.prog 81 #[cfgV c, .int .i64 11] w fun e w' => e = .returned (.int .i64 F) ∧ Fr [] w w') := by rw [hF]; exact fun w => rfrom_11 w c h
  have HST : Hid (∀ w, Calls Try.prog 130 #[cfgV c] w fun e w' => e = .returned (.int .i64 (stride c)) ∧ Fr [] w w') := by exact fun w => rstride_any w c h
  have hpl : place c 11 i k = F + i * st + k := by rw [hF, hst]; simp only [place, ownOf, fromP, each]; simp; try omega
  have hist : 0 ≤ i * st ∧ i * st ≤ 19000 := by
    rw [hst, e2]; omega
  have hFb : 0 ≤ F ∧ F ≤ 18100 := by
    have hs := stride_bd h
    rw [hF]; omega
  have hkb : 0 ≤ k ∧ k ≤ 3000 := by
    have := cap_bd h
    omega
  have d2 : decide (i < 0) = false := by simp; omega
  have d3 : decide (i ≥ cnt c 11) = false := by simp; omega
  have d4 : decide (k < 0) = false := by simp; omega
  have d5 : decide (k ≥ each c 11) = false := by simp; omega
  have HB := Lib.hid (fun w => rcount_any w c h 11 (by omega))
  have HC := Lib.hid (fun w => reach_any w c h 11 (by omega))
  rw [hpl]
  rw [hst] at *
  rw [show cfgV c = .agg (cfgL c).toArray from rfl] at *
  have hsz : (cfgL c).length = 6 := rfl
  have HM := Lib.hid (Blk.new w 24 (cfgL c))
  generalize cfgL c = cl at *
  generalize cnt c 11 = n, each c 11 = m at *
  clear r0 r1 r2 r3 r4 r5 r6 r7 r8 r9 r10 r11 r12 hp b1 b2 hi0 hi1 hi2 hi3 e1 e2 e4 hF hst hpl h
  go_enter Try.func94, Try.ntmps94
  go_wp2_with (refine wpList_load_any 24 _ rfl rfl _ 0 rfl cl _ HM.out.range Try.underlying24 rfl (by rw [hsz]; kernel_rfl) ?_)
  refine (HB.out _).mono ?_
  rintro e w1 ⟨rfl, hf⟩
  have HM1 := Lib.hid (HM.out.fr hf (by simp))
  have HF := Lib.hid (((Fr.refl [] w).alloc _).trans hf); clear hf HM
  go_wp2_with (refine wpList_load_any 24 _ rfl rfl _ 0 rfl cl _ HM1.out.range Try.underlying24 rfl (by rw [hsz]; kernel_rfl) ?_)
  refine (HC.out _).mono ?_
  rintro e w2 ⟨rfl, hf⟩
  have HM2 := Lib.hid (HM1.out.fr hf (by simp))
  have HF2 := Lib.hid (HF.out.trans hf); clear hf HM1 HF
  go_wp2_with (refine wpList_load_any 24 _ rfl rfl _ 0 rfl cl _ HM2.out.range Try.underlying24 rfl (by rw [hsz]; kernel_rfl) ?_)
  refine (HC.out _).mono ?_
  rintro e w3 ⟨rfl, hf⟩
  have HM3 := Lib.hid (HM2.out.fr hf (by simp))
  have HF3 := Lib.hid (HF2.out.trans hf); clear hf HM2 HF2
  go_wp2_with (refine wpList_load_any 24 _ rfl rfl _ 0 rfl cl _ HM3.out.range Try.underlying24 rfl (by rw [hsz]; kernel_rfl) ?_)
  refine (HA.out _).mono ?_
  rintro e w5 ⟨rfl, hf⟩
  have HF5 := Lib.hid (HF3.out.trans hf); clear hf
  go_wp2_with fail
  go_ret
  generalize F + i * m + k = res
  exact ⟨rfl, HF5.out⟩
set_option maxHeartbeats 1000000 in
theorem rat_12 (w : World) (c : Cfg) (h : Ok c) (i k : Int) (hi : Is c 12 i k) : Calls Try.prog 94 #[cfgV c, .int .i64 12, .int .i64 i, .int .i64 k] w fun e w' => e = .returned (.int .i64 (place c 12 i k)) ∧ Fr [] w w' := by
  obtain ⟨r0, r1, r2, r3, r4, r5, r6, r7, r8, r9, r10, r11, r12⟩ := row h
  have hp := (wh_place h hi).2
  have b1 := h.t8
  have b2 := h.b64
  obtain ⟨hi0, hi1, hi2, hi3⟩ := hi
  have e1 : cnt c 12 = 1 := by simp [cnt]
  have e2 : each c 12 = 1 := by simp [each]
  have e4 : eachP c 12 = each c 12 := by simp [eachP]
  obtain ⟨F, hF⟩ : ∃ F : Int, F = fTop c := ⟨_, rfl⟩
  obtain ⟨st, hst⟩ : ∃ F : Int, F = each c 12 := ⟨_, rfl⟩
  have HA : Hid (∀ w, Calls Try.prog 81 #[cfgV c, .int .i64 12] w fun e w' => e = .returned (.int .i64 F) ∧ Fr [] w w') := by rw [hF]; exact fun w => rfrom_12 w c h
  have HST : Hid (∀ w, Calls Try.prog 130 #[cfgV c] w fun e w' => e = .returned (.int .i64 (stride c)) ∧ Fr [] w w') := by exact fun w => rstride_any w c h
  have hpl : place c 12 i k = F + i * st + k := by rw [hF, hst]; simp only [place, ownOf, fromP, each]; simp; try omega
  have hist : 0 ≤ i * st ∧ i * st ≤ 19000 := by
    rw [hst, e2]; omega
  have hFb : 0 ≤ F ∧ F ≤ 18100 := by
    have hs := stride_bd h
    rw [hF]; omega
  have hkb : 0 ≤ k ∧ k ≤ 3000 := by
    have := cap_bd h
    omega
  have d2 : decide (i < 0) = false := by simp; omega
  have d3 : decide (i ≥ cnt c 12) = false := by simp; omega
  have d4 : decide (k < 0) = false := by simp; omega
  have d5 : decide (k ≥ each c 12) = false := by simp; omega
  have HB := Lib.hid (fun w => rcount_any w c h 12 (by omega))
  have HC := Lib.hid (fun w => reach_any w c h 12 (by omega))
  rw [hpl]
  rw [hst] at *
  rw [show cfgV c = .agg (cfgL c).toArray from rfl] at *
  have hsz : (cfgL c).length = 6 := rfl
  have HM := Lib.hid (Blk.new w 24 (cfgL c))
  generalize cfgL c = cl at *
  generalize cnt c 12 = n, each c 12 = m at *
  clear r0 r1 r2 r3 r4 r5 r6 r7 r8 r9 r10 r11 r12 hp b1 b2 hi0 hi1 hi2 hi3 e1 e2 e4 hF hst hpl h
  go_enter Try.func94, Try.ntmps94
  go_wp2_with (refine wpList_load_any 24 _ rfl rfl _ 0 rfl cl _ HM.out.range Try.underlying24 rfl (by rw [hsz]; kernel_rfl) ?_)
  refine (HB.out _).mono ?_
  rintro e w1 ⟨rfl, hf⟩
  have HM1 := Lib.hid (HM.out.fr hf (by simp))
  have HF := Lib.hid (((Fr.refl [] w).alloc _).trans hf); clear hf HM
  go_wp2_with (refine wpList_load_any 24 _ rfl rfl _ 0 rfl cl _ HM1.out.range Try.underlying24 rfl (by rw [hsz]; kernel_rfl) ?_)
  refine (HC.out _).mono ?_
  rintro e w2 ⟨rfl, hf⟩
  have HM2 := Lib.hid (HM1.out.fr hf (by simp))
  have HF2 := Lib.hid (HF.out.trans hf); clear hf HM1 HF
  go_wp2_with (refine wpList_load_any 24 _ rfl rfl _ 0 rfl cl _ HM2.out.range Try.underlying24 rfl (by rw [hsz]; kernel_rfl) ?_)
  refine (HC.out _).mono ?_
  rintro e w3 ⟨rfl, hf⟩
  have HM3 := Lib.hid (HM2.out.fr hf (by simp))
  have HF3 := Lib.hid (HF2.out.trans hf); clear hf HM2 HF2
  go_wp2_with (refine wpList_load_any 24 _ rfl rfl _ 0 rfl cl _ HM3.out.range Try.underlying24 rfl (by rw [hsz]; kernel_rfl) ?_)
  refine (HA.out _).mono ?_
  rintro e w5 ⟨rfl, hf⟩
  have HF5 := Lib.hid (HF3.out.trans hf); clear hf
  go_wp2_with fail
  go_ret
  generalize F + i * m + k = res
  exact ⟨rfl, HF5.out⟩
set_option maxHeartbeats 1000000 in
theorem rat_13 (w : World) (c : Cfg) (h : Ok c) (i k : Int) (hi : Is c 13 i k) : Calls Try.prog 94 #[cfgV c, .int .i64 13, .int .i64 i, .int .i64 k] w fun e w' => e = .returned (.int .i64 (place c 13 i k)) ∧ Fr [] w w' := by
  obtain ⟨r0, r1, r2, r3, r4, r5, r6, r7, r8, r9, r10, r11, r12⟩ := row h
  have hp := (wh_place h hi).2
  have b1 := h.t8
  have b2 := h.b64
  obtain ⟨hi0, hi1, hi2, hi3⟩ := hi
  have e1 : cnt c 13 = c.b := by simp [cnt]
  have e2 : each c 13 = 1 := by simp [each]
  have e4 : eachP c 13 = each c 13 := by simp [eachP]
  obtain ⟨F, hF⟩ : ∃ F : Int, F = fStack c := ⟨_, rfl⟩
  obtain ⟨st, hst⟩ : ∃ F : Int, F = each c 13 := ⟨_, rfl⟩
  have HA : Hid (∀ w, Calls Try.prog 81 #[cfgV c, .int .i64 13] w fun e w' => e = .returned (.int .i64 F) ∧ Fr [] w w') := by rw [hF]; exact fun w => rfrom_13 w c h
  have HST : Hid (∀ w, Calls Try.prog 130 #[cfgV c] w fun e w' => e = .returned (.int .i64 (stride c)) ∧ Fr [] w w') := by exact fun w => rstride_any w c h
  have hpl : place c 13 i k = F + i * st + k := by rw [hF, hst]; simp only [place, ownOf, fromP, each]; simp; try omega
  have hist : 0 ≤ i * st ∧ i * st ≤ 19000 := by
    rw [hst, e2]; omega
  have hFb : 0 ≤ F ∧ F ≤ 18100 := by
    have hs := stride_bd h
    rw [hF]; omega
  have hkb : 0 ≤ k ∧ k ≤ 3000 := by
    have := cap_bd h
    omega
  have d2 : decide (i < 0) = false := by simp; omega
  have d3 : decide (i ≥ cnt c 13) = false := by simp; omega
  have d4 : decide (k < 0) = false := by simp; omega
  have d5 : decide (k ≥ each c 13) = false := by simp; omega
  have HB := Lib.hid (fun w => rcount_any w c h 13 (by omega))
  have HC := Lib.hid (fun w => reach_any w c h 13 (by omega))
  rw [hpl]
  rw [hst] at *
  rw [show cfgV c = .agg (cfgL c).toArray from rfl] at *
  have hsz : (cfgL c).length = 6 := rfl
  have HM := Lib.hid (Blk.new w 24 (cfgL c))
  generalize cfgL c = cl at *
  generalize cnt c 13 = n, each c 13 = m at *
  clear r0 r1 r2 r3 r4 r5 r6 r7 r8 r9 r10 r11 r12 hp b1 b2 hi0 hi1 hi2 hi3 e1 e2 e4 hF hst hpl h
  go_enter Try.func94, Try.ntmps94
  go_wp2_with (refine wpList_load_any 24 _ rfl rfl _ 0 rfl cl _ HM.out.range Try.underlying24 rfl (by rw [hsz]; kernel_rfl) ?_)
  refine (HB.out _).mono ?_
  rintro e w1 ⟨rfl, hf⟩
  have HM1 := Lib.hid (HM.out.fr hf (by simp))
  have HF := Lib.hid (((Fr.refl [] w).alloc _).trans hf); clear hf HM
  go_wp2_with (refine wpList_load_any 24 _ rfl rfl _ 0 rfl cl _ HM1.out.range Try.underlying24 rfl (by rw [hsz]; kernel_rfl) ?_)
  refine (HC.out _).mono ?_
  rintro e w2 ⟨rfl, hf⟩
  have HM2 := Lib.hid (HM1.out.fr hf (by simp))
  have HF2 := Lib.hid (HF.out.trans hf); clear hf HM1 HF
  go_wp2_with (refine wpList_load_any 24 _ rfl rfl _ 0 rfl cl _ HM2.out.range Try.underlying24 rfl (by rw [hsz]; kernel_rfl) ?_)
  refine (HC.out _).mono ?_
  rintro e w3 ⟨rfl, hf⟩
  have HM3 := Lib.hid (HM2.out.fr hf (by simp))
  have HF3 := Lib.hid (HF2.out.trans hf); clear hf HM2 HF2
  go_wp2_with (refine wpList_load_any 24 _ rfl rfl _ 0 rfl cl _ HM3.out.range Try.underlying24 rfl (by rw [hsz]; kernel_rfl) ?_)
  refine (HA.out _).mono ?_
  rintro e w5 ⟨rfl, hf⟩
  have HF5 := Lib.hid (HF3.out.trans hf); clear hf
  go_wp2_with fail
  go_ret
  generalize F + i * m + k = res
  exact ⟨rfl, HF5.out⟩
set_option maxHeartbeats 1000000 in
theorem rat_14 (w : World) (c : Cfg) (h : Ok c) (i k : Int) (hi : Is c 14 i k) : Calls Try.prog 94 #[cfgV c, .int .i64 14, .int .i64 i, .int .i64 k] w fun e w' => e = .returned (.int .i64 (place c 14 i k)) ∧ Fr [] w w' := by
  obtain ⟨r0, r1, r2, r3, r4, r5, r6, r7, r8, r9, r10, r11, r12⟩ := row h
  have hp := (wh_place h hi).2
  have b1 := h.t8
  have b2 := h.b64
  obtain ⟨hi0, hi1, hi2, hi3⟩ := hi
  have e1 : cnt c 14 = 1 := by simp [cnt]
  have e2 : each c 14 = 1 := by simp [each]
  have e4 : eachP c 14 = each c 14 := by simp [eachP]
  obtain ⟨F, hF⟩ : ∃ F : Int, F = fLim c := ⟨_, rfl⟩
  obtain ⟨st, hst⟩ : ∃ F : Int, F = each c 14 := ⟨_, rfl⟩
  have HA : Hid (∀ w, Calls Try.prog 81 #[cfgV c, .int .i64 14] w fun e w' => e = .returned (.int .i64 F) ∧ Fr [] w w') := by rw [hF]; exact fun w => rfrom_14 w c h
  have HST : Hid (∀ w, Calls Try.prog 130 #[cfgV c] w fun e w' => e = .returned (.int .i64 (stride c)) ∧ Fr [] w w') := by exact fun w => rstride_any w c h
  have hpl : place c 14 i k = F + i * st + k := by rw [hF, hst]; simp only [place, ownOf, fromP, each]; simp; try omega
  have hist : 0 ≤ i * st ∧ i * st ≤ 19000 := by
    rw [hst, e2]; omega
  have hFb : 0 ≤ F ∧ F ≤ 18100 := by
    have hs := stride_bd h
    rw [hF]; omega
  have hkb : 0 ≤ k ∧ k ≤ 3000 := by
    have := cap_bd h
    omega
  have d2 : decide (i < 0) = false := by simp; omega
  have d3 : decide (i ≥ cnt c 14) = false := by simp; omega
  have d4 : decide (k < 0) = false := by simp; omega
  have d5 : decide (k ≥ each c 14) = false := by simp; omega
  have HB := Lib.hid (fun w => rcount_any w c h 14 (by omega))
  have HC := Lib.hid (fun w => reach_any w c h 14 (by omega))
  rw [hpl]
  rw [hst] at *
  rw [show cfgV c = .agg (cfgL c).toArray from rfl] at *
  have hsz : (cfgL c).length = 6 := rfl
  have HM := Lib.hid (Blk.new w 24 (cfgL c))
  generalize cfgL c = cl at *
  generalize cnt c 14 = n, each c 14 = m at *
  clear r0 r1 r2 r3 r4 r5 r6 r7 r8 r9 r10 r11 r12 hp b1 b2 hi0 hi1 hi2 hi3 e1 e2 e4 hF hst hpl h
  go_enter Try.func94, Try.ntmps94
  go_wp2_with (refine wpList_load_any 24 _ rfl rfl _ 0 rfl cl _ HM.out.range Try.underlying24 rfl (by rw [hsz]; kernel_rfl) ?_)
  refine (HB.out _).mono ?_
  rintro e w1 ⟨rfl, hf⟩
  have HM1 := Lib.hid (HM.out.fr hf (by simp))
  have HF := Lib.hid (((Fr.refl [] w).alloc _).trans hf); clear hf HM
  go_wp2_with (refine wpList_load_any 24 _ rfl rfl _ 0 rfl cl _ HM1.out.range Try.underlying24 rfl (by rw [hsz]; kernel_rfl) ?_)
  refine (HC.out _).mono ?_
  rintro e w2 ⟨rfl, hf⟩
  have HM2 := Lib.hid (HM1.out.fr hf (by simp))
  have HF2 := Lib.hid (HF.out.trans hf); clear hf HM1 HF
  go_wp2_with (refine wpList_load_any 24 _ rfl rfl _ 0 rfl cl _ HM2.out.range Try.underlying24 rfl (by rw [hsz]; kernel_rfl) ?_)
  refine (HC.out _).mono ?_
  rintro e w3 ⟨rfl, hf⟩
  have HM3 := Lib.hid (HM2.out.fr hf (by simp))
  have HF3 := Lib.hid (HF2.out.trans hf); clear hf HM2 HF2
  go_wp2_with (refine wpList_load_any 24 _ rfl rfl _ 0 rfl cl _ HM3.out.range Try.underlying24 rfl (by rw [hsz]; kernel_rfl) ?_)
  refine (HA.out _).mono ?_
  rintro e w5 ⟨rfl, hf⟩
  have HF5 := Lib.hid (HF3.out.trans hf); clear hf
  go_wp2_with fail
  go_ret
  generalize F + i * m + k = res
  exact ⟨rfl, HF5.out⟩
set_option maxHeartbeats 1000000 in
theorem rat_15 (w : World) (c : Cfg) (h : Ok c) (i k : Int) (hi : Is c 15 i k) : Calls Try.prog 94 #[cfgV c, .int .i64 15, .int .i64 i, .int .i64 k] w fun e w' => e = .returned (.int .i64 (place c 15 i k)) ∧ Fr [] w w' := by
  obtain ⟨r0, r1, r2, r3, r4, r5, r6, r7, r8, r9, r10, r11, r12⟩ := row h
  have hp := (wh_place h hi).2
  have b1 := h.t8
  have b2 := h.b64
  obtain ⟨hi0, hi1, hi2, hi3⟩ := hi
  have e1 : cnt c 15 = limit c := by simp [cnt]
  have e2 : each c 15 = 1 := by simp [each]
  have e4 : eachP c 15 = each c 15 := by simp [eachP]
  obtain ⟨F, hF⟩ : ∃ F : Int, F = fLimbo c := ⟨_, rfl⟩
  obtain ⟨st, hst⟩ : ∃ F : Int, F = each c 15 := ⟨_, rfl⟩
  have HA : Hid (∀ w, Calls Try.prog 81 #[cfgV c, .int .i64 15] w fun e w' => e = .returned (.int .i64 F) ∧ Fr [] w w') := by rw [hF]; exact fun w => rfrom_15 w c h
  have HST : Hid (∀ w, Calls Try.prog 130 #[cfgV c] w fun e w' => e = .returned (.int .i64 (stride c)) ∧ Fr [] w w') := by exact fun w => rstride_any w c h
  have hpl : place c 15 i k = F + i * st + k := by rw [hF, hst]; simp only [place, ownOf, fromP, each]; simp; try omega
  have hist : 0 ≤ i * st ∧ i * st ≤ 19000 := by
    rw [hst, e2]; omega
  have hFb : 0 ≤ F ∧ F ≤ 18100 := by
    have hs := stride_bd h
    rw [hF]; omega
  have hkb : 0 ≤ k ∧ k ≤ 3000 := by
    have := cap_bd h
    omega
  have d2 : decide (i < 0) = false := by simp; omega
  have d3 : decide (i ≥ cnt c 15) = false := by simp; omega
  have d4 : decide (k < 0) = false := by simp; omega
  have d5 : decide (k ≥ each c 15) = false := by simp; omega
  have HB := Lib.hid (fun w => rcount_any w c h 15 (by omega))
  have HC := Lib.hid (fun w => reach_any w c h 15 (by omega))
  rw [hpl]
  rw [hst] at *
  rw [show cfgV c = .agg (cfgL c).toArray from rfl] at *
  have hsz : (cfgL c).length = 6 := rfl
  have HM := Lib.hid (Blk.new w 24 (cfgL c))
  generalize cfgL c = cl at *
  generalize cnt c 15 = n, each c 15 = m at *
  clear r0 r1 r2 r3 r4 r5 r6 r7 r8 r9 r10 r11 r12 hp b1 b2 hi0 hi1 hi2 hi3 e1 e2 e4 hF hst hpl h
  go_enter Try.func94, Try.ntmps94
  go_wp2_with (refine wpList_load_any 24 _ rfl rfl _ 0 rfl cl _ HM.out.range Try.underlying24 rfl (by rw [hsz]; kernel_rfl) ?_)
  refine (HB.out _).mono ?_
  rintro e w1 ⟨rfl, hf⟩
  have HM1 := Lib.hid (HM.out.fr hf (by simp))
  have HF := Lib.hid (((Fr.refl [] w).alloc _).trans hf); clear hf HM
  go_wp2_with (refine wpList_load_any 24 _ rfl rfl _ 0 rfl cl _ HM1.out.range Try.underlying24 rfl (by rw [hsz]; kernel_rfl) ?_)
  refine (HC.out _).mono ?_
  rintro e w2 ⟨rfl, hf⟩
  have HM2 := Lib.hid (HM1.out.fr hf (by simp))
  have HF2 := Lib.hid (HF.out.trans hf); clear hf HM1 HF
  go_wp2_with (refine wpList_load_any 24 _ rfl rfl _ 0 rfl cl _ HM2.out.range Try.underlying24 rfl (by rw [hsz]; kernel_rfl) ?_)
  refine (HC.out _).mono ?_
  rintro e w3 ⟨rfl, hf⟩
  have HM3 := Lib.hid (HM2.out.fr hf (by simp))
  have HF3 := Lib.hid (HF2.out.trans hf); clear hf HM2 HF2
  go_wp2_with (refine wpList_load_any 24 _ rfl rfl _ 0 rfl cl _ HM3.out.range Try.underlying24 rfl (by rw [hsz]; kernel_rfl) ?_)
  refine (HA.out _).mono ?_
  rintro e w5 ⟨rfl, hf⟩
  have HF5 := Lib.hid (HF3.out.trans hf); clear hf
  go_wp2_with fail
  go_ret
  generalize F + i * m + k = res
  exact ⟨rfl, HF5.out⟩
set_option maxHeartbeats 1000000 in
theorem rat_16 (w : World) (c : Cfg) (h : Ok c) (i k : Int) (hi : Is c 16 i k) : Calls Try.prog 94 #[cfgV c, .int .i64 16, .int .i64 i, .int .i64 k] w fun e w' => e = .returned (.int .i64 (place c 16 i k)) ∧ Fr [] w w' := by
  obtain ⟨r0, r1, r2, r3, r4, r5, r6, r7, r8, r9, r10, r11, r12⟩ := row h
  have hp := (wh_place h hi).2
  have b1 := h.t8
  have b2 := h.b64
  obtain ⟨hi0, hi1, hi2, hi3⟩ := hi
  have e1 : cnt c 16 = c.b := by simp [cnt]
  have e2 : each c 16 = 8 := by simp [each]
  have e4 : eachP c 16 = each c 16 := by simp [eachP]
  obtain ⟨F, hF⟩ : ∃ F : Int, F = fWord c := ⟨_, rfl⟩
  obtain ⟨st, hst⟩ : ∃ F : Int, F = each c 16 := ⟨_, rfl⟩
  have HA : Hid (∀ w, Calls Try.prog 81 #[cfgV c, .int .i64 16] w fun e w' => e = .returned (.int .i64 F) ∧ Fr [] w w') := by rw [hF]; exact fun w => rfrom_16 w c h
  have HST : Hid (∀ w, Calls Try.prog 130 #[cfgV c] w fun e w' => e = .returned (.int .i64 (stride c)) ∧ Fr [] w w') := by exact fun w => rstride_any w c h
  have hpl : place c 16 i k = F + i * st + k := by rw [hF, hst]; simp only [place, ownOf, fromP, each]; simp; try omega
  have hist : 0 ≤ i * st ∧ i * st ≤ 19000 := by
    rw [hst, e2]; omega
  have hFb : 0 ≤ F ∧ F ≤ 18100 := by
    have hs := stride_bd h
    rw [hF]; omega
  have hkb : 0 ≤ k ∧ k ≤ 3000 := by
    have := cap_bd h
    omega
  have d2 : decide (i < 0) = false := by simp; omega
  have d3 : decide (i ≥ cnt c 16) = false := by simp; omega
  have d4 : decide (k < 0) = false := by simp; omega
  have d5 : decide (k ≥ each c 16) = false := by simp; omega
  have HB := Lib.hid (fun w => rcount_any w c h 16 (by omega))
  have HC := Lib.hid (fun w => reach_any w c h 16 (by omega))
  rw [hpl]
  rw [hst] at *
  rw [show cfgV c = .agg (cfgL c).toArray from rfl] at *
  have hsz : (cfgL c).length = 6 := rfl
  have HM := Lib.hid (Blk.new w 24 (cfgL c))
  generalize cfgL c = cl at *
  generalize cnt c 16 = n, each c 16 = m at *
  clear r0 r1 r2 r3 r4 r5 r6 r7 r8 r9 r10 r11 r12 hp b1 b2 hi0 hi1 hi2 hi3 e1 e2 e4 hF hst hpl h
  go_enter Try.func94, Try.ntmps94
  go_wp2_with (refine wpList_load_any 24 _ rfl rfl _ 0 rfl cl _ HM.out.range Try.underlying24 rfl (by rw [hsz]; kernel_rfl) ?_)
  refine (HB.out _).mono ?_
  rintro e w1 ⟨rfl, hf⟩
  have HM1 := Lib.hid (HM.out.fr hf (by simp))
  have HF := Lib.hid (((Fr.refl [] w).alloc _).trans hf); clear hf HM
  go_wp2_with (refine wpList_load_any 24 _ rfl rfl _ 0 rfl cl _ HM1.out.range Try.underlying24 rfl (by rw [hsz]; kernel_rfl) ?_)
  refine (HC.out _).mono ?_
  rintro e w2 ⟨rfl, hf⟩
  have HM2 := Lib.hid (HM1.out.fr hf (by simp))
  have HF2 := Lib.hid (HF.out.trans hf); clear hf HM1 HF
  go_wp2_with (refine wpList_load_any 24 _ rfl rfl _ 0 rfl cl _ HM2.out.range Try.underlying24 rfl (by rw [hsz]; kernel_rfl) ?_)
  refine (HC.out _).mono ?_
  rintro e w3 ⟨rfl, hf⟩
  have HM3 := Lib.hid (HM2.out.fr hf (by simp))
  have HF3 := Lib.hid (HF2.out.trans hf); clear hf HM2 HF2
  go_wp2_with (refine wpList_load_any 24 _ rfl rfl _ 0 rfl cl _ HM3.out.range Try.underlying24 rfl (by rw [hsz]; kernel_rfl) ?_)
  refine (HA.out _).mono ?_
  rintro e w5 ⟨rfl, hf⟩
  have HF5 := Lib.hid (HF3.out.trans hf); clear hf
  go_wp2_with fail
  go_ret
  generalize F + i * m + k = res
  exact ⟨rfl, HF5.out⟩
theorem rat_any (w : World) (c : Cfg) (h : Ok c) (kind i k : Int) : Calls Try.prog 94 #[cfgV c, .int .i64 kind, .int .i64 i, .int .i64 k] w fun e w' => e = .returned (.int .i64 (at_ c kind i k)) ∧ Fr [] w w' := by
  unfold at_
  by_cases hi : Is c kind i k
  · rw [if_pos hi]
    rcases kinds_ (is_kind hi) with rfl | rfl | rfl | rfl | rfl | rfl | rfl | rfl | rfl | rfl | rfl | rfl | rfl | rfl | rfl | rfl | rfl
    · exact rat_0 w c h i k hi
    · exact rat_1 w c h i k hi
    · exact rat_2 w c h i k hi
    · exact rat_3 w c h i k hi
    · exact rat_4 w c h i k hi
    · exact rat_5 w c h i k hi
    · exact rat_6 w c h i k hi
    · exact rat_7 w c h i k hi
    · exact rat_8 w c h i k hi
    · exact rat_9 w c h i k hi
    · exact rat_10 w c h i k hi
    · exact rat_11 w c h i k hi
    · exact rat_12 w c h i k hi
    · exact rat_13 w c h i k hi
    · exact rat_14 w c h i k hi
    · exact rat_15 w c h i k hi
    · exact rat_16 w c h i k hi
  · rw [if_neg hi]
    by_cases h0 : kind < 0
    · exact rat_bad1 w c kind i k (by simpa using h0)
    by_cases h1 : 16 < kind
    · exact rat_bad2 w c kind i k (by simpa using h0) (by simpa using h1)
    by_cases h2 : i < 0
    · exact rat_bad3 w c kind i k (by simpa using h0) (by simpa using h1) (by simpa using h2)
    have hk : 0 ≤ kind ∧ kind ≤ 16 := by omega
    by_cases h3 : cnt c kind ≤ i
    · exact rat_bad4 w c h kind i k hk (by simpa using h2) (by simpa using h3)
    by_cases h4 : k < 0
    · exact rat_bad5 w c h kind i k hk (by simpa using h2) (by simpa using h3) (by simpa using h4)
    by_cases h5 : each c kind ≤ k
    · exact rat_bad6 w c h kind i k hk (by simpa using h2) (by simpa using h3) (by simpa using h4) (by simpa using h5)
    exact absurd ⟨by omega, by omega, by omega, by unfold eachP; rw [if_pos hk]; omega⟩ hi
end Go.Proofs.Ytccioehckfdjdaa
