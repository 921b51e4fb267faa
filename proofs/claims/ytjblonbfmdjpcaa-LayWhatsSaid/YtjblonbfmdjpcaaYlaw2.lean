/- The laws LayBack, LayApart, walked. -/
import Derived.Test.YtjblonbfmdjpcaaYlaw1
set_option linter.unusedSimpArgs false
set_option linter.unusedVariables false
namespace Go.Proofs.Ytjblonbfmdjpcaa
open Go.RowKit Go.Tum Go.Tum.Y
theorem tells_place {c : Cfg} (h : Ok c) {kd i k : Int} (hi : Is c kd i k) : Tells c (place c kd i k) kd i k := by
  obtain ⟨_, h0, h1⟩ := wh_place h hi
  obtain ⟨kd', i', k', hi', he, ht⟩ := what_in h h0 h1
  obtain ⟨rfl, rfl, rfl⟩ := place_inj h hi' hi he
  exact ht
theorem at_is {c : Cfg} {kd i k : Int} (hi : Is c kd i k) : at_ c kd i k = place c kd i k := by unfold at_; rw [if_pos hi]
theorem at_no {c : Cfg} {kd i k : Int} (hi : ¬ Is c kd i k) : at_ c kd i k = -1 := by unfold at_; rw [if_neg hi]
set_option maxRecDepth 100000 in
set_option maxHeartbeats 4000000 in
theorem back_AA (w : World) (c : Cfg) (h : Ok c) (kind i k p v z kd j l : Int) (hv0 : (v == (-1 : Int)) = false) (hv1 : decide (v < 0) = false) (hv2 : decide (v ≥ z) = false) (HT : Hid (Tells c v kind i k)) (hp0 : decide (p < 0) = false) (hp1 : decide (p ≥ z) = false) (hkd : (kd == (-1 : Int)) = false) (HA : Hid (∀ w, Calls Try.prog 20 #[mapV c, .int .i64 kd, .int .i64 j, .int .i64 l] w fun e w' => e = .returned (.int .i64 p) ∧ Fr [] w w'))
    (K5 : Hid (∀ w, Calls Try.prog 20 #[mapV c, .int .i64 kind, .int .i64 i, .int .i64 k] w fun e w' => e = .returned (.int .i64 v) ∧ Fr [] w w'))
    (HW : Hid (Tells c p kd j l)) (K4 : Hid (∀ w, Calls Try.prog 18 #[mapV c] w fun e w' => e = .returned (.int .i64 z) ∧ Fr [] w w')) :
    Calls Try.prog 4 #[cfgV c, .int .i64 kind, .int .i64 i, .int .i64 k, .int .i64 p] w fun e w' => e = .returned (.bool true) ∧ Fr [] w w' := by
  have hkd2 : (kd != (-1 : Int)) = true := (by simpa using hkd); have hkd3 : kd ≠ -1 := (by simpa using hkd)
  have HO : Hid (∀ w, Calls Try.prog 9 #[.agg (cfgL c).toArray] w fun e w' => e = .returned (.tuple #[mapV c, .int .i64 0]) ∧ Fr [] w w') := fun w => of_good w c h
  have hrc : right c = true := by unfold right; simpa using h
  have hsz : (mapCells c).length = 24 := rfl
  have hone := oneCells c
  have HAT := Lib.hid (fun w kd i k => at_any w c h kd i k)
  unfold Tells mapV at *
  have HS := Lib.hid ((Sep.nil (Fr.refl [] w)).new 24 (cfgL c))
  have HR : Hid (∀ w, Calls Try.prog 10 #[.agg (cfgL c).toArray] w fun e w' => e = .returned (.bool (right c)) ∧ Fr [] w w') := fun w => rright_any w c
  have hsz6 : (cfgL c).length = 6 := rfl
  rw [show cfgV c = .agg (cfgL c).toArray from rfl]
  go_enter Try.func4, Try.ntmps4
  go_wp2_with fail
  refine (alive_any _).mono ?_
  rintro e w1 ⟨rfl, hf⟩
  have HS := Lib.hid (HS.out.fr0 hf)
  clear hf
  go_wp2_with (first | (refine wpList_load_any 24 _ rfl rfl _ 0 rfl (cfgL c) _ (HS.out.blk 0 rfl).range Try.underlying24 rfl (by rw [hsz6]; kernel_rfl) ?_))
  refine (HO.out _).mono ?_
  rintro e w1 ⟨rfl, hf⟩
  have HS := Lib.hid (HS.out.fr0 hf)
  clear hf
  have HS := Lib.hid (HS.out.new 28 (mapCells c))
  go_wp2_with (first | (refine wpList_store_new 28 _ ((mapCells c)).toArray rfl _ _ rfl rfl rfl (by rw [List.size_toArray, hsz]; kernel_rfl) (by simp [hsz]) (all_oneCell_toArray hone) ?_) | (refine wpList_load_any 28 _ rfl rfl _ 0 rfl (mapCells c) _ (HS.out.blk 0 rfl).range Try.underlying28 rfl (by rw [hsz]; kernel_rfl) ?_))
  refine (K5.out _).mono ?_
  rintro e w1 ⟨rfl, hf⟩
  have HS := Lib.hid (HS.out.fr0 hf)
  clear hf
  go_wp2_with (first | (refine wpList_load_any 28 _ rfl rfl _ 0 rfl (mapCells c) _ (HS.out.blk 0 rfl).range Try.underlying28 rfl (by rw [hsz]; kernel_rfl) ?_))
  refine (HT.out _).mono ?_
  rintro e w1 ⟨rfl, hf⟩
  have HS := Lib.hid (HS.out.fr0 hf)
  clear hf
  go_wp2_with (first | (refine wpList_load_any 28 _ rfl rfl _ 0 rfl (mapCells c) _ (HS.out.blk 0 rfl).range Try.underlying28 rfl (by rw [hsz]; kernel_rfl) ?_))
  refine (K4.out _).mono ?_
  rintro e w1 ⟨rfl, hf⟩
  have HS := Lib.hid (HS.out.fr0 hf)
  clear hf
  go_wp2_with (first | (refine wpList_load_any 28 _ rfl rfl _ 0 rfl (mapCells c) _ (HS.out.blk 0 rfl).range Try.underlying28 rfl (by rw [hsz]; kernel_rfl) ?_))
  refine (HW.out _).mono ?_
  rintro e w1 ⟨rfl, hf⟩
  have HS := Lib.hid (HS.out.fr0 hf)
  clear hf
  go_wp2_with (first | (refine wpList_load_any 28 _ rfl rfl _ 0 rfl (mapCells c) _ (HS.out.blk 0 rfl).range Try.underlying28 rfl (by rw [hsz]; kernel_rfl) ?_))
  refine (K4.out _).mono ?_
  rintro e w1 ⟨rfl, hf⟩
  have HS := Lib.hid (HS.out.fr0 hf)
  clear hf
  go_wp2_with (first | (refine wpList_load_any 28 _ rfl rfl _ 0 rfl (mapCells c) _ (HS.out.blk 0 rfl).range Try.underlying28 rfl (by rw [hsz]; kernel_rfl) ?_))
  refine (HA.out _).mono ?_
  rintro e w1 ⟨rfl, hf⟩
  have HS := Lib.hid (HS.out.fr0 hf)
  clear hf
  go_wp2_with fail
  go_ret
  exact ⟨rfl, HS.out.fr⟩
set_option maxRecDepth 100000 in
set_option maxHeartbeats 4000000 in
theorem back_AB (w : World) (c : Cfg) (h : Ok c) (kind i k p v z kd j l : Int) (hv0 : (v == (-1 : Int)) = false) (hv1 : decide (v < 0) = false) (hv2 : decide (v ≥ z) = false) (HT : Hid (Tells c v kind i k)) (hp0 : decide (p < 0) = true) (e1 : kd = -1) (e2 : j = 0) (e3 : l = 0)
    (K5 : Hid (∀ w, Calls Try.prog 20 #[mapV c, .int .i64 kind, .int .i64 i, .int .i64 k] w fun e w' => e = .returned (.int .i64 v) ∧ Fr [] w w'))
    (HW : Hid (Tells c p kd j l)) (K4 : Hid (∀ w, Calls Try.prog 18 #[mapV c] w fun e w' => e = .returned (.int .i64 z) ∧ Fr [] w w')) :
    Calls Try.prog 4 #[cfgV c, .int .i64 kind, .int .i64 i, .int .i64 k, .int .i64 p] w fun e w' => e = .returned (.bool true) ∧ Fr [] w w' := by
  skip; subst e1 e2 e3
  have HO : Hid (∀ w, Calls Try.prog 9 #[.agg (cfgL c).toArray] w fun e w' => e = .returned (.tuple #[mapV c, .int .i64 0]) ∧ Fr [] w w') := fun w => of_good w c h
  have hrc : right c = true := by unfold right; simpa using h
  have hsz : (mapCells c).length = 24 := rfl
  have hone := oneCells c
  have HAT := Lib.hid (fun w kd i k => at_any w c h kd i k)
  unfold Tells mapV at *
  have HS := Lib.hid ((Sep.nil (Fr.refl [] w)).new 24 (cfgL c))
  have HR : Hid (∀ w, Calls Try.prog 10 #[.agg (cfgL c).toArray] w fun e w' => e = .returned (.bool (right c)) ∧ Fr [] w w') := fun w => rright_any w c
  have hsz6 : (cfgL c).length = 6 := rfl
  rw [show cfgV c = .agg (cfgL c).toArray from rfl]
  go_enter Try.func4, Try.ntmps4
  go_wp2_with fail
  refine (alive_any _).mono ?_
  rintro e w1 ⟨rfl, hf⟩
  have HS := Lib.hid (HS.out.fr0 hf)
  clear hf
  go_wp2_with (first | (refine wpList_load_any 24 _ rfl rfl _ 0 rfl (cfgL c) _ (HS.out.blk 0 rfl).range Try.underlying24 rfl (by rw [hsz6]; kernel_rfl) ?_))
  refine (HO.out _).mono ?_
  rintro e w1 ⟨rfl, hf⟩
  have HS := Lib.hid (HS.out.fr0 hf)
  clear hf
  have HS := Lib.hid (HS.out.new 28 (mapCells c))
  go_wp2_with (first | (refine wpList_store_new 28 _ ((mapCells c)).toArray rfl _ _ rfl rfl rfl (by rw [List.size_toArray, hsz]; kernel_rfl) (by simp [hsz]) (all_oneCell_toArray hone) ?_) | (refine wpList_load_any 28 _ rfl rfl _ 0 rfl (mapCells c) _ (HS.out.blk 0 rfl).range Try.underlying28 rfl (by rw [hsz]; kernel_rfl) ?_))
  refine (K5.out _).mono ?_
  rintro e w1 ⟨rfl, hf⟩
  have HS := Lib.hid (HS.out.fr0 hf)
  clear hf
  go_wp2_with (first | (refine wpList_load_any 28 _ rfl rfl _ 0 rfl (mapCells c) _ (HS.out.blk 0 rfl).range Try.underlying28 rfl (by rw [hsz]; kernel_rfl) ?_))
  refine (HT.out _).mono ?_
  rintro e w1 ⟨rfl, hf⟩
  have HS := Lib.hid (HS.out.fr0 hf)
  clear hf
  go_wp2_with (first | (refine wpList_load_any 28 _ rfl rfl _ 0 rfl (mapCells c) _ (HS.out.blk 0 rfl).range Try.underlying28 rfl (by rw [hsz]; kernel_rfl) ?_))
  refine (K4.out _).mono ?_
  rintro e w1 ⟨rfl, hf⟩
  have HS := Lib.hid (HS.out.fr0 hf)
  clear hf
  go_wp2_with (first | (refine wpList_load_any 28 _ rfl rfl _ 0 rfl (mapCells c) _ (HS.out.blk 0 rfl).range Try.underlying28 rfl (by rw [hsz]; kernel_rfl) ?_))
  refine (HW.out _).mono ?_
  rintro e w1 ⟨rfl, hf⟩
  have HS := Lib.hid (HS.out.fr0 hf)
  clear hf
  go_wp2_with fail
  go_ret
  exact ⟨rfl, HS.out.fr⟩
set_option maxRecDepth 100000 in
set_option maxHeartbeats 4000000 in
theorem back_AC (w : World) (c : Cfg) (h : Ok c) (kind i k p v z kd j l : Int) (hv0 : (v == (-1 : Int)) = false) (hv1 : decide (v < 0) = false) (hv2 : decide (v ≥ z) = false) (HT : Hid (Tells c v kind i k)) (hp0 : decide (p < 0) = false) (hp1 : decide (p ≥ z) = true) (e1 : kd = -1) (e2 : j = 0) (e3 : l = 0)
    (K5 : Hid (∀ w, Calls Try.prog 20 #[mapV c, .int .i64 kind, .int .i64 i, .int .i64 k] w fun e w' => e = .returned (.int .i64 v) ∧ Fr [] w w'))
    (HW : Hid (Tells c p kd j l)) (K4 : Hid (∀ w, Calls Try.prog 18 #[mapV c] w fun e w' => e = .returned (.int .i64 z) ∧ Fr [] w w')) :
    Calls Try.prog 4 #[cfgV c, .int .i64 kind, .int .i64 i, .int .i64 k, .int .i64 p] w fun e w' => e = .returned (.bool true) ∧ Fr [] w w' := by
  skip; subst e1 e2 e3
  have HO : Hid (∀ w, Calls Try.prog 9 #[.agg (cfgL c).toArray] w fun e w' => e = .returned (.tuple #[mapV c, .int .i64 0]) ∧ Fr [] w w') := fun w => of_good w c h
  have hrc : right c = true := by unfold right; simpa using h
  have hsz : (mapCells c).length = 24 := rfl
  have hone := oneCells c
  have HAT := Lib.hid (fun w kd i k => at_any w c h kd i k)
  unfold Tells mapV at *
  have HS := Lib.hid ((Sep.nil (Fr.refl [] w)).new 24 (cfgL c))
  have HR : Hid (∀ w, Calls Try.prog 10 #[.agg (cfgL c).toArray] w fun e w' => e = .returned (.bool (right c)) ∧ Fr [] w w') := fun w => rright_any w c
  have hsz6 : (cfgL c).length = 6 := rfl
  rw [show cfgV c = .agg (cfgL c).toArray from rfl]
  go_enter Try.func4, Try.ntmps4
  go_wp2_with fail
  refine (alive_any _).mono ?_
  rintro e w1 ⟨rfl, hf⟩
  have HS := Lib.hid (HS.out.fr0 hf)
  clear hf
  go_wp2_with (first | (refine wpList_load_any 24 _ rfl rfl _ 0 rfl (cfgL c) _ (HS.out.blk 0 rfl).range Try.underlying24 rfl (by rw [hsz6]; kernel_rfl) ?_))
  refine (HO.out _).mono ?_
  rintro e w1 ⟨rfl, hf⟩
  have HS := Lib.hid (HS.out.fr0 hf)
  clear hf
  have HS := Lib.hid (HS.out.new 28 (mapCells c))
  go_wp2_with (first | (refine wpList_store_new 28 _ ((mapCells c)).toArray rfl _ _ rfl rfl rfl (by rw [List.size_toArray, hsz]; kernel_rfl) (by simp [hsz]) (all_oneCell_toArray hone) ?_) | (refine wpList_load_any 28 _ rfl rfl _ 0 rfl (mapCells c) _ (HS.out.blk 0 rfl).range Try.underlying28 rfl (by rw [hsz]; kernel_rfl) ?_))
  refine (K5.out _).mono ?_
  rintro e w1 ⟨rfl, hf⟩
  have HS := Lib.hid (HS.out.fr0 hf)
  clear hf
  go_wp2_with (first | (refine wpList_load_any 28 _ rfl rfl _ 0 rfl (mapCells c) _ (HS.out.blk 0 rfl).range Try.underlying28 rfl (by rw [hsz]; kernel_rfl) ?_))
  refine (HT.out _).mono ?_
  rintro e w1 ⟨rfl, hf⟩
  have HS := Lib.hid (HS.out.fr0 hf)
  clear hf
  go_wp2_with (first | (refine wpList_load_any 28 _ rfl rfl _ 0 rfl (mapCells c) _ (HS.out.blk 0 rfl).range Try.underlying28 rfl (by rw [hsz]; kernel_rfl) ?_))
  refine (K4.out _).mono ?_
  rintro e w1 ⟨rfl, hf⟩
  have HS := Lib.hid (HS.out.fr0 hf)
  clear hf
  go_wp2_with (first | (refine wpList_load_any 28 _ rfl rfl _ 0 rfl (mapCells c) _ (HS.out.blk 0 rfl).range Try.underlying28 rfl (by rw [hsz]; kernel_rfl) ?_))
  refine (HW.out _).mono ?_
  rintro e w1 ⟨rfl, hf⟩
  have HS := Lib.hid (HS.out.fr0 hf)
  clear hf
  go_wp2_with (first | (refine wpList_load_any 28 _ rfl rfl _ 0 rfl (mapCells c) _ (HS.out.blk 0 rfl).range Try.underlying28 rfl (by rw [hsz]; kernel_rfl) ?_))
  refine (K4.out _).mono ?_
  rintro e w1 ⟨rfl, hf⟩
  have HS := Lib.hid (HS.out.fr0 hf)
  clear hf
  go_wp2_with fail
  go_ret
  exact ⟨rfl, HS.out.fr⟩
set_option maxRecDepth 100000 in
set_option maxHeartbeats 4000000 in
theorem back_NA (w : World) (c : Cfg) (h : Ok c) (kind i k p v z kd j l : Int) (hv : v = -1) (hp0 : decide (p < 0) = false) (hp1 : decide (p ≥ z) = false) (hkd : (kd == (-1 : Int)) = false) (HA : Hid (∀ w, Calls Try.prog 20 #[mapV c, .int .i64 kd, .int .i64 j, .int .i64 l] w fun e w' => e = .returned (.int .i64 p) ∧ Fr [] w w'))
    (K5 : Hid (∀ w, Calls Try.prog 20 #[mapV c, .int .i64 kind, .int .i64 i, .int .i64 k] w fun e w' => e = .returned (.int .i64 v) ∧ Fr [] w w'))
    (HW : Hid (Tells c p kd j l)) (K4 : Hid (∀ w, Calls Try.prog 18 #[mapV c] w fun e w' => e = .returned (.int .i64 z) ∧ Fr [] w w')) :
    Calls Try.prog 4 #[cfgV c, .int .i64 kind, .int .i64 i, .int .i64 k, .int .i64 p] w fun e w' => e = .returned (.bool true) ∧ Fr [] w w' := by
  subst hv; have hkd2 : (kd != (-1 : Int)) = true := (by simpa using hkd); have hkd3 : kd ≠ -1 := (by simpa using hkd)
  have HO : Hid (∀ w, Calls Try.prog 9 #[.agg (cfgL c).toArray] w fun e w' => e = .returned (.tuple #[mapV c, .int .i64 0]) ∧ Fr [] w w') := fun w => of_good w c h
  have hrc : right c = true := by unfold right; simpa using h
  have hsz : (mapCells c).length = 24 := rfl
  have hone := oneCells c
  have HAT := Lib.hid (fun w kd i k => at_any w c h kd i k)
  unfold Tells mapV at *
  have HS := Lib.hid ((Sep.nil (Fr.refl [] w)).new 24 (cfgL c))
  have HR : Hid (∀ w, Calls Try.prog 10 #[.agg (cfgL c).toArray] w fun e w' => e = .returned (.bool (right c)) ∧ Fr [] w w') := fun w => rright_any w c
  have hsz6 : (cfgL c).length = 6 := rfl
  rw [show cfgV c = .agg (cfgL c).toArray from rfl]
  go_enter Try.func4, Try.ntmps4
  go_wp2_with fail
  refine (alive_any _).mono ?_
  rintro e w1 ⟨rfl, hf⟩
  have HS := Lib.hid (HS.out.fr0 hf)
  clear hf
  go_wp2_with (first | (refine wpList_load_any 24 _ rfl rfl _ 0 rfl (cfgL c) _ (HS.out.blk 0 rfl).range Try.underlying24 rfl (by rw [hsz6]; kernel_rfl) ?_))
  refine (HO.out _).mono ?_
  rintro e w1 ⟨rfl, hf⟩
  have HS := Lib.hid (HS.out.fr0 hf)
  clear hf
  have HS := Lib.hid (HS.out.new 28 (mapCells c))
  go_wp2_with (first | (refine wpList_store_new 28 _ ((mapCells c)).toArray rfl _ _ rfl rfl rfl (by rw [List.size_toArray, hsz]; kernel_rfl) (by simp [hsz]) (all_oneCell_toArray hone) ?_) | (refine wpList_load_any 28 _ rfl rfl _ 0 rfl (mapCells c) _ (HS.out.blk 0 rfl).range Try.underlying28 rfl (by rw [hsz]; kernel_rfl) ?_))
  refine (K5.out _).mono ?_
  rintro e w1 ⟨rfl, hf⟩
  have HS := Lib.hid (HS.out.fr0 hf)
  clear hf
  go_wp2_with (first | (refine wpList_load_any 28 _ rfl rfl _ 0 rfl (mapCells c) _ (HS.out.blk 0 rfl).range Try.underlying28 rfl (by rw [hsz]; kernel_rfl) ?_))
  refine (HW.out _).mono ?_
  rintro e w1 ⟨rfl, hf⟩
  have HS := Lib.hid (HS.out.fr0 hf)
  clear hf
  go_wp2_with (first | (refine wpList_load_any 28 _ rfl rfl _ 0 rfl (mapCells c) _ (HS.out.blk 0 rfl).range Try.underlying28 rfl (by rw [hsz]; kernel_rfl) ?_))
  refine (K4.out _).mono ?_
  rintro e w1 ⟨rfl, hf⟩
  have HS := Lib.hid (HS.out.fr0 hf)
  clear hf
  go_wp2_with (first | (refine wpList_load_any 28 _ rfl rfl _ 0 rfl (mapCells c) _ (HS.out.blk 0 rfl).range Try.underlying28 rfl (by rw [hsz]; kernel_rfl) ?_))
  refine (HA.out _).mono ?_
  rintro e w1 ⟨rfl, hf⟩
  have HS := Lib.hid (HS.out.fr0 hf)
  clear hf
  go_wp2_with fail
  go_ret
  exact ⟨rfl, HS.out.fr⟩
set_option maxRecDepth 100000 in
set_option maxHeartbeats 4000000 in
theorem back_NB (w : World) (c : Cfg) (h : Ok c) (kind i k p v z kd j l : Int) (hv : v = -1) (hp0 : decide (p < 0) = true) (e1 : kd = -1) (e2 : j = 0) (e3 : l = 0)
    (K5 : Hid (∀ w, Calls Try.prog 20 #[mapV c, .int .i64 kind, .int .i64 i, .int .i64 k] w fun e w' => e = .returned (.int .i64 v) ∧ Fr [] w w'))
    (HW : Hid (Tells c p kd j l)) (K4 : Hid (∀ w, Calls Try.prog 18 #[mapV c] w fun e w' => e = .returned (.int .i64 z) ∧ Fr [] w w')) :
    Calls Try.prog 4 #[cfgV c, .int .i64 kind, .int .i64 i, .int .i64 k, .int .i64 p] w fun e w' => e = .returned (.bool true) ∧ Fr [] w w' := by
  subst hv; subst e1 e2 e3
  have HO : Hid (∀ w, Calls Try.prog 9 #[.agg (cfgL c).toArray] w fun e w' => e = .returned (.tuple #[mapV c, .int .i64 0]) ∧ Fr [] w w') := fun w => of_good w c h
  have hrc : right c = true := by unfold right; simpa using h
  have hsz : (mapCells c).length = 24 := rfl
  have hone := oneCells c
  have HAT := Lib.hid (fun w kd i k => at_any w c h kd i k)
  unfold Tells mapV at *
  have HS := Lib.hid ((Sep.nil (Fr.refl [] w)).new 24 (cfgL c))
  have HR : Hid (∀ w, Calls Try.prog 10 #[.agg (cfgL c).toArray] w fun e w' => e = .returned (.bool (right c)) ∧ Fr [] w w') := fun w => rright_any w c
  have hsz6 : (cfgL c).length = 6 := rfl
  rw [show cfgV c = .agg (cfgL c).toArray from rfl]
  go_enter Try.func4, Try.ntmps4
  go_wp2_with fail
  refine (alive_any _).mono ?_
  rintro e w1 ⟨rfl, hf⟩
  have HS := Lib.hid (HS.out.fr0 hf)
  clear hf
  go_wp2_with (first | (refine wpList_load_any 24 _ rfl rfl _ 0 rfl (cfgL c) _ (HS.out.blk 0 rfl).range Try.underlying24 rfl (by rw [hsz6]; kernel_rfl) ?_))
  refine (HO.out _).mono ?_
  rintro e w1 ⟨rfl, hf⟩
  have HS := Lib.hid (HS.out.fr0 hf)
  clear hf
  have HS := Lib.hid (HS.out.new 28 (mapCells c))
  go_wp2_with (first | (refine wpList_store_new 28 _ ((mapCells c)).toArray rfl _ _ rfl rfl rfl (by rw [List.size_toArray, hsz]; kernel_rfl) (by simp [hsz]) (all_oneCell_toArray hone) ?_) | (refine wpList_load_any 28 _ rfl rfl _ 0 rfl (mapCells c) _ (HS.out.blk 0 rfl).range Try.underlying28 rfl (by rw [hsz]; kernel_rfl) ?_))
  refine (K5.out _).mono ?_
  rintro e w1 ⟨rfl, hf⟩
  have HS := Lib.hid (HS.out.fr0 hf)
  clear hf
  go_wp2_with (first | (refine wpList_load_any 28 _ rfl rfl _ 0 rfl (mapCells c) _ (HS.out.blk 0 rfl).range Try.underlying28 rfl (by rw [hsz]; kernel_rfl) ?_))
  refine (HW.out _).mono ?_
  rintro e w1 ⟨rfl, hf⟩
  have HS := Lib.hid (HS.out.fr0 hf)
  clear hf
  go_wp2_with fail
  go_ret
  exact ⟨rfl, HS.out.fr⟩
set_option maxRecDepth 100000 in
set_option maxHeartbeats 4000000 in
theorem back_NC (w : World) (c : Cfg) (h : Ok c) (kind i k p v z kd j l : Int) (hv : v = -1) (hp0 : decide (p < 0) = false) (hp1 : decide (p ≥ z) = true) (e1 : kd = -1) (e2 : j = 0) (e3 : l = 0)
    (K5 : Hid (∀ w, Calls Try.prog 20 #[mapV c, .int .i64 kind, .int .i64 i, .int .i64 k] w fun e w' => e = .returned (.int .i64 v) ∧ Fr [] w w'))
    (HW : Hid (Tells c p kd j l)) (K4 : Hid (∀ w, Calls Try.prog 18 #[mapV c] w fun e w' => e = .returned (.int .i64 z) ∧ Fr [] w w')) :
    Calls Try.prog 4 #[cfgV c, .int .i64 kind, .int .i64 i, .int .i64 k, .int .i64 p] w fun e w' => e = .returned (.bool true) ∧ Fr [] w w' := by
  subst hv; subst e1 e2 e3
  have HO : Hid (∀ w, Calls Try.prog 9 #[.agg (cfgL c).toArray] w fun e w' => e = .returned (.tuple #[mapV c, .int .i64 0]) ∧ Fr [] w w') := fun w => of_good w c h
  have hrc : right c = true := by unfold right; simpa using h
  have hsz : (mapCells c).length = 24 := rfl
  have hone := oneCells c
  have HAT := Lib.hid (fun w kd i k => at_any w c h kd i k)
  unfold Tells mapV at *
  have HS := Lib.hid ((Sep.nil (Fr.refl [] w)).new 24 (cfgL c))
  have HR : Hid (∀ w, Calls Try.prog 10 #[.agg (cfgL c).toArray] w fun e w' => e = .returned (.bool (right c)) ∧ Fr [] w w') := fun w => rright_any w c
  have hsz6 : (cfgL c).length = 6 := rfl
  rw [show cfgV c = .agg (cfgL c).toArray from rfl]
  go_enter Try.func4, Try.ntmps4
  go_wp2_with fail
  refine (alive_any _).mono ?_
  rintro e w1 ⟨rfl, hf⟩
  have HS := Lib.hid (HS.out.fr0 hf)
  clear hf
  go_wp2_with (first | (refine wpList_load_any 24 _ rfl rfl _ 0 rfl (cfgL c) _ (HS.out.blk 0 rfl).range Try.underlying24 rfl (by rw [hsz6]; kernel_rfl) ?_))
  refine (HO.out _).mono ?_
  rintro e w1 ⟨rfl, hf⟩
  have HS := Lib.hid (HS.out.fr0 hf)
  clear hf
  have HS := Lib.hid (HS.out.new 28 (mapCells c))
  go_wp2_with (first | (refine wpList_store_new 28 _ ((mapCells c)).toArray rfl _ _ rfl rfl rfl (by rw [List.size_toArray, hsz]; kernel_rfl) (by simp [hsz]) (all_oneCell_toArray hone) ?_) | (refine wpList_load_any 28 _ rfl rfl _ 0 rfl (mapCells c) _ (HS.out.blk 0 rfl).range Try.underlying28 rfl (by rw [hsz]; kernel_rfl) ?_))
  refine (K5.out _).mono ?_
  rintro e w1 ⟨rfl, hf⟩
  have HS := Lib.hid (HS.out.fr0 hf)
  clear hf
  go_wp2_with (first | (refine wpList_load_any 28 _ rfl rfl _ 0 rfl (mapCells c) _ (HS.out.blk 0 rfl).range Try.underlying28 rfl (by rw [hsz]; kernel_rfl) ?_))
  refine (HW.out _).mono ?_
  rintro e w1 ⟨rfl, hf⟩
  have HS := Lib.hid (HS.out.fr0 hf)
  clear hf
  go_wp2_with (first | (refine wpList_load_any 28 _ rfl rfl _ 0 rfl (mapCells c) _ (HS.out.blk 0 rfl).range Try.underlying28 rfl (by rw [hsz]; kernel_rfl) ?_))
  refine (K4.out _).mono ?_
  rintro e w1 ⟨rfl, hf⟩
  have HS := Lib.hid (HS.out.fr0 hf)
  clear hf
  go_wp2_with fail
  go_ret
  exact ⟨rfl, HS.out.fr⟩
theorem back_law (w : World) (c : Cfg) (kind i k p : Int) : Calls Try.prog 4 #[cfgV c, .int .i64 kind, .int .i64 i, .int .i64 k, .int .i64 p] w fun e w' => e = .returned (.bool true) ∧ Fr [] w w' := by
  by_cases h : Ok c
  rotate_left
  · exact back_bad w c h kind i k p
  have K5 := Lib.hid (fun w => at_any w c h kind i k)
  have K4 : Hid (∀ w, Calls Try.prog 18 #[mapV c] w fun e w' => e = .returned (.int .i64 (size c)) ∧ Fr [] w w') := fun w => msize_cs w (mapCells c) (size c) rfl rfl
  have hin : ∀ kd j l, Is c kd j l → place c kd j l = p → (kd == (-1 : Int)) = false ∧ ∀ w, Calls Try.prog 20 #[mapV c, .int .i64 kd, .int .i64 j, .int .i64 l] w fun e w' => e = .returned (.int .i64 p) ∧ Fr [] w w' := by
    intro kd j l h1 h2
    have := is_kind h1
    refine ⟨by simp; omega, fun w => ?_⟩
    have := at_any w c h kd j l
    rwa [at_is h1, h2] at this
  by_cases hi : Is c kind i k
  · obtain ⟨_, b0, b1⟩ := wh_place h hi
    rw [at_is hi] at K5
    have HT := Lib.hid (tells_place h hi)
    by_cases h0 : p < 0
    · exact back_AB w c h kind i k p _ _ _ _ _ (by simp; omega) (by simp; omega) (by simp; omega) HT (by simpa using h0) rfl rfl rfl K5 (what_no c p (.inl h0)) K4
    by_cases h1 : size c ≤ p
    · exact back_AC w c h kind i k p _ _ _ _ _ (by simp; omega) (by simp; omega) (by simp; omega) HT (by simpa using h0) (by simpa using h1) rfl rfl rfl K5 (what_no c p (.inr h1)) K4
    obtain ⟨kd, j, l, q1, q2, q3⟩ := what_in h (p := p) (by omega) (by omega)
    obtain ⟨q4, q5⟩ := hin kd j l q1 q2
    exact back_AA w c h kind i k p _ _ _ _ _ (by simp; omega) (by simp; omega) (by simp; omega) HT (by simpa using h0) (by simpa using h1) q4 q5 K5 q3 K4
  · rw [at_no hi] at K5
    by_cases h0 : p < 0
    · exact back_NB w c h kind i k p _ _ _ _ _ rfl (by simpa using h0) rfl rfl rfl K5 (what_no c p (.inl h0)) K4
    by_cases h1 : size c ≤ p
    · exact back_NC w c h kind i k p _ _ _ _ _ rfl (by simpa using h0) (by simpa using h1) rfl rfl rfl K5 (what_no c p (.inr h1)) K4
    obtain ⟨kd, j, l, q1, q2, q3⟩ := what_in h (p := p) (by omega) (by omega)
    obtain ⟨q4, q5⟩ := hin kd j l q1 q2
    exact back_NA w c h kind i k p _ _ _ _ _ rfl (by simpa using h0) (by simpa using h1) q4 q5 K5 q3 K4
theorem back_row (a b d f g l kind i k p : Int) (w : World) : Calls Try.prog 4 #[.agg #[.int .i64 a, .int .i64 b, .int .i64 d, .int .i64 f, .int .u64 g, .int .u64 l], .int .i64 kind, .int .i64 i, .int .i64 k, .int .i64 p] w fun e w' => e = .returned (.bool true) ∧ Fr [] w w' := back_law w ⟨a, b, d, f, g, l⟩ kind i k p

set_option maxRecDepth 100000 in
set_option maxHeartbeats 4000000 in
theorem apart_n1 (w : World) (c : Cfg) (h : Ok c) (kind i k kind' i' k' a b : Int) (ha : a = -1)
    (K5 : Hid (∀ w, Calls Try.prog 20 #[mapV c, .int .i64 kind, .int .i64 i, .int .i64 k] w fun e w' => e = .returned (.int .i64 a) ∧ Fr [] w w'))
    (K6 : Hid (∀ w, Calls Try.prog 20 #[mapV c, .int .i64 kind', .int .i64 i', .int .i64 k'] w fun e w' => e = .returned (.int .i64 b) ∧ Fr [] w w')) :
    Calls Try.prog 6 #[cfgV c, .int .i64 kind, .int .i64 i, .int .i64 k, .int .i64 kind', .int .i64 i', .int .i64 k'] w fun e w' => e = .returned (.bool true) ∧ Fr [] w w' := by
  subst ha
  have HO : Hid (∀ w, Calls Try.prog 9 #[.agg (cfgL c).toArray] w fun e w' => e = .returned (.tuple #[mapV c, .int .i64 0]) ∧ Fr [] w w') := fun w => of_good w c h
  have hrc : right c = true := by unfold right; simpa using h
  have hsz : (mapCells c).length = 24 := rfl
  have hone := oneCells c
  have HAT := Lib.hid (fun w kd i k => at_any w c h kd i k)
  unfold mapV at *
  have HS := Lib.hid ((Sep.nil (Fr.refl [] w)).new 24 (cfgL c))
  have HR : Hid (∀ w, Calls Try.prog 10 #[.agg (cfgL c).toArray] w fun e w' => e = .returned (.bool (right c)) ∧ Fr [] w w') := fun w => rright_any w c
  have hsz6 : (cfgL c).length = 6 := rfl
  rw [show cfgV c = .agg (cfgL c).toArray from rfl]
  go_enter Try.func6, Try.ntmps6
  go_wp2_with fail
  refine (alive_any _).mono ?_
  rintro e w1 ⟨rfl, hf⟩
  have HS := Lib.hid (HS.out.fr0 hf)
  clear hf
  go_wp2_with (first | (refine wpList_load_any 24 _ rfl rfl _ 0 rfl (cfgL c) _ (HS.out.blk 0 rfl).range Try.underlying24 rfl (by rw [hsz6]; kernel_rfl) ?_))
  refine (HO.out _).mono ?_
  rintro e w1 ⟨rfl, hf⟩
  have HS := Lib.hid (HS.out.fr0 hf)
  clear hf
  have HS := Lib.hid (HS.out.new 28 (mapCells c))
  go_wp2_with (first | (refine wpList_store_new 28 _ ((mapCells c)).toArray rfl _ _ rfl rfl rfl (by rw [List.size_toArray, hsz]; kernel_rfl) (by simp [hsz]) (all_oneCell_toArray hone) ?_))
  have hmd := (HS.out.blk 0 rfl).drew
  have hmc := (HS.out.blk 1 rfl).drew
  refine wp_region_fr [(1, [0, 1, 2, 3, 5, 6, 7, 8]), (2, [4]), (3, [9]), (0, [10, 11])] [] (by kernel_rfl) (by kernel_rfl) ?_
  simp only [theOps, nthOp, List.map_cons, List.map_nil, Array.getD_eq_getD_getElem?, List.getElem?_toArray, List.getElem?_cons_succ, List.getElem?_cons_zero, Option.getD_some]
  refine wpSegs_soft ?_
  repeat (first | (refine wpQuiet_load_mid 28 _ _ 0 (mapCells c) _ rfl rfl rfl (rangeAt_after hmd (by simp)) Try.underlying28 rfl (by rw [hsz]; kernel_rfl) ?_; simp only [Act.put, List.setIfInBounds_toArray, List.set_cons_zero, List.set_cons_succ]) | (refine wpQuiet_load_mid 24 _ _ 0 (cfgL c) _ rfl rfl rfl (rangeAt_after hmc (by simp)) Try.underlying24 rfl (by rw [hsz6]; kernel_rfl) ?_; simp only [Act.put, List.setIfInBounds_toArray, List.set_cons_zero, List.set_cons_succ]) | go_big_quiet_step (fail) | quiet_step (fail))
  refine wpQuiet_nil ?_
  refine wpSegs_keep ?_
  go_wp2_with fail
  refine (K5.out _).mono ?_
  rintro e w2 ⟨rfl, hf⟩
  have HF := Lib.hid hf; clear hf
  go_wp2_with fail
  refine ⟨⟨⟨_, (by exact HF.out)⟩, rfl⟩, ?_⟩
  refine wpSegs_hard ?_
  go_wp2_with fail
  have HS := Lib.hid (HS.out.drew.fr0 HF.out)
  refine (K6.out _).mono ?_
  rintro e w1 ⟨rfl, hf⟩
  have HS := Lib.hid (HS.out.fr0 hf)
  clear hf
  clear HF hmd hmc
  go_wp2_with fail
  repeat ((first | refine wpSegs_soft ?_ | refine wpSegs_pure ?_ | refine wpSegs_here ?_); (repeat (first | go_big_quiet_step (fail) | quiet_step (fail))); refine wpQuiet_nil ?_)
  refine wpSegs_done ?_
  go_wp2_with fail
  go_ret
  exact ⟨rfl, HS.out.fr⟩
set_option maxRecDepth 100000 in
set_option maxHeartbeats 4000000 in
theorem apart_n2 (w : World) (c : Cfg) (h : Ok c) (kind i k kind' i' k' a b : Int) (ha : (a == (-1 : Int)) = false) (hb : b = -1)
    (K5 : Hid (∀ w, Calls Try.prog 20 #[mapV c, .int .i64 kind, .int .i64 i, .int .i64 k] w fun e w' => e = .returned (.int .i64 a) ∧ Fr [] w w'))
    (K6 : Hid (∀ w, Calls Try.prog 20 #[mapV c, .int .i64 kind', .int .i64 i', .int .i64 k'] w fun e w' => e = .returned (.int .i64 b) ∧ Fr [] w w')) :
    Calls Try.prog 6 #[cfgV c, .int .i64 kind, .int .i64 i, .int .i64 k, .int .i64 kind', .int .i64 i', .int .i64 k'] w fun e w' => e = .returned (.bool true) ∧ Fr [] w w' := by
  subst hb
  have HO : Hid (∀ w, Calls Try.prog 9 #[.agg (cfgL c).toArray] w fun e w' => e = .returned (.tuple #[mapV c, .int .i64 0]) ∧ Fr [] w w') := fun w => of_good w c h
  have hrc : right c = true := by unfold right; simpa using h
  have hsz : (mapCells c).length = 24 := rfl
  have hone := oneCells c
  have HAT := Lib.hid (fun w kd i k => at_any w c h kd i k)
  unfold mapV at *
  have HS := Lib.hid ((Sep.nil (Fr.refl [] w)).new 24 (cfgL c))
  have HR : Hid (∀ w, Calls Try.prog 10 #[.agg (cfgL c).toArray] w fun e w' => e = .returned (.bool (right c)) ∧ Fr [] w w') := fun w => rright_any w c
  have hsz6 : (cfgL c).length = 6 := rfl
  rw [show cfgV c = .agg (cfgL c).toArray from rfl]
  go_enter Try.func6, Try.ntmps6
  go_wp2_with fail
  refine (alive_any _).mono ?_
  rintro e w1 ⟨rfl, hf⟩
  have HS := Lib.hid (HS.out.fr0 hf)
  clear hf
  go_wp2_with (first | (refine wpList_load_any 24 _ rfl rfl _ 0 rfl (cfgL c) _ (HS.out.blk 0 rfl).range Try.underlying24 rfl (by rw [hsz6]; kernel_rfl) ?_))
  refine (HO.out _).mono ?_
  rintro e w1 ⟨rfl, hf⟩
  have HS := Lib.hid (HS.out.fr0 hf)
  clear hf
  have HS := Lib.hid (HS.out.new 28 (mapCells c))
  go_wp2_with (first | (refine wpList_store_new 28 _ ((mapCells c)).toArray rfl _ _ rfl rfl rfl (by rw [List.size_toArray, hsz]; kernel_rfl) (by simp [hsz]) (all_oneCell_toArray hone) ?_))
  have hmd := (HS.out.blk 0 rfl).drew
  have hmc := (HS.out.blk 1 rfl).drew
  refine wp_region_fr [(1, [0, 1, 2, 3, 5, 6, 7, 8]), (2, [4]), (3, [9]), (0, [10, 11])] [] (by kernel_rfl) (by kernel_rfl) ?_
  simp only [theOps, nthOp, List.map_cons, List.map_nil, Array.getD_eq_getD_getElem?, List.getElem?_toArray, List.getElem?_cons_succ, List.getElem?_cons_zero, Option.getD_some]
  refine wpSegs_soft ?_
  repeat (first | (refine wpQuiet_load_mid 28 _ _ 0 (mapCells c) _ rfl rfl rfl (rangeAt_after hmd (by simp)) Try.underlying28 rfl (by rw [hsz]; kernel_rfl) ?_; simp only [Act.put, List.setIfInBounds_toArray, List.set_cons_zero, List.set_cons_succ]) | (refine wpQuiet_load_mid 24 _ _ 0 (cfgL c) _ rfl rfl rfl (rangeAt_after hmc (by simp)) Try.underlying24 rfl (by rw [hsz6]; kernel_rfl) ?_; simp only [Act.put, List.setIfInBounds_toArray, List.set_cons_zero, List.set_cons_succ]) | go_big_quiet_step (fail) | quiet_step (fail))
  refine wpQuiet_nil ?_
  refine wpSegs_keep ?_
  go_wp2_with fail
  refine (K5.out _).mono ?_
  rintro e w2 ⟨rfl, hf⟩
  have HF := Lib.hid hf; clear hf
  go_wp2_with fail
  refine ⟨⟨⟨_, (by exact HF.out)⟩, rfl⟩, ?_⟩
  refine wpSegs_hard ?_
  go_wp2_with fail
  have HS := Lib.hid (HS.out.drew.fr0 HF.out)
  refine (K6.out _).mono ?_
  rintro e w1 ⟨rfl, hf⟩
  have HS := Lib.hid (HS.out.fr0 hf)
  clear hf
  clear HF hmd hmc
  go_wp2_with fail
  repeat ((first | refine wpSegs_soft ?_ | refine wpSegs_pure ?_ | refine wpSegs_here ?_); (repeat (first | go_big_quiet_step (fail) | quiet_step (fail))); refine wpQuiet_nil ?_)
  refine wpSegs_done ?_
  go_wp2_with fail
  go_ret
  exact ⟨rfl, HS.out.fr⟩
set_option maxRecDepth 100000 in
set_option maxHeartbeats 4000000 in
theorem apart_kd (w : World) (c : Cfg) (h : Ok c) (kind i k kind' i' k' a b : Int) (ha : (a == (-1 : Int)) = false) (hb : (b == (-1 : Int)) = false) (hn : (kind == kind') = false) (hab : (a == b) = false)
    (K5 : Hid (∀ w, Calls Try.prog 20 #[mapV c, .int .i64 kind, .int .i64 i, .int .i64 k] w fun e w' => e = .returned (.int .i64 a) ∧ Fr [] w w'))
    (K6 : Hid (∀ w, Calls Try.prog 20 #[mapV c, .int .i64 kind', .int .i64 i', .int .i64 k'] w fun e w' => e = .returned (.int .i64 b) ∧ Fr [] w w')) :
    Calls Try.prog 6 #[cfgV c, .int .i64 kind, .int .i64 i, .int .i64 k, .int .i64 kind', .int .i64 i', .int .i64 k'] w fun e w' => e = .returned (.bool true) ∧ Fr [] w w' := by
  skip
  have HO : Hid (∀ w, Calls Try.prog 9 #[.agg (cfgL c).toArray] w fun e w' => e = .returned (.tuple #[mapV c, .int .i64 0]) ∧ Fr [] w w') := fun w => of_good w c h
  have hrc : right c = true := by unfold right; simpa using h
  have hsz : (mapCells c).length = 24 := rfl
  have hone := oneCells c
  have HAT := Lib.hid (fun w kd i k => at_any w c h kd i k)
  unfold mapV at *
  have HS := Lib.hid ((Sep.nil (Fr.refl [] w)).new 24 (cfgL c))
  have HR : Hid (∀ w, Calls Try.prog 10 #[.agg (cfgL c).toArray] w fun e w' => e = .returned (.bool (right c)) ∧ Fr [] w w') := fun w => rright_any w c
  have hsz6 : (cfgL c).length = 6 := rfl
  rw [show cfgV c = .agg (cfgL c).toArray from rfl]
  go_enter Try.func6, Try.ntmps6
  go_wp2_with fail
  refine (alive_any _).mono ?_
  rintro e w1 ⟨rfl, hf⟩
  have HS := Lib.hid (HS.out.fr0 hf)
  clear hf
  go_wp2_with (first | (refine wpList_load_any 24 _ rfl rfl _ 0 rfl (cfgL c) _ (HS.out.blk 0 rfl).range Try.underlying24 rfl (by rw [hsz6]; kernel_rfl) ?_))
  refine (HO.out _).mono ?_
  rintro e w1 ⟨rfl, hf⟩
  have HS := Lib.hid (HS.out.fr0 hf)
  clear hf
  have HS := Lib.hid (HS.out.new 28 (mapCells c))
  go_wp2_with (first | (refine wpList_store_new 28 _ ((mapCells c)).toArray rfl _ _ rfl rfl rfl (by rw [List.size_toArray, hsz]; kernel_rfl) (by simp [hsz]) (all_oneCell_toArray hone) ?_))
  have hmd := (HS.out.blk 0 rfl).drew
  have hmc := (HS.out.blk 1 rfl).drew
  refine wp_region_fr [(1, [0, 1, 2, 3, 5, 6, 7, 8]), (2, [4]), (3, [9]), (0, [10, 11])] [] (by kernel_rfl) (by kernel_rfl) ?_
  simp only [theOps, nthOp, List.map_cons, List.map_nil, Array.getD_eq_getD_getElem?, List.getElem?_toArray, List.getElem?_cons_succ, List.getElem?_cons_zero, Option.getD_some]
  refine wpSegs_soft ?_
  repeat (first | (refine wpQuiet_load_mid 28 _ _ 0 (mapCells c) _ rfl rfl rfl (rangeAt_after hmd (by simp)) Try.underlying28 rfl (by rw [hsz]; kernel_rfl) ?_; simp only [Act.put, List.setIfInBounds_toArray, List.set_cons_zero, List.set_cons_succ]) | (refine wpQuiet_load_mid 24 _ _ 0 (cfgL c) _ rfl rfl rfl (rangeAt_after hmc (by simp)) Try.underlying24 rfl (by rw [hsz6]; kernel_rfl) ?_; simp only [Act.put, List.setIfInBounds_toArray, List.set_cons_zero, List.set_cons_succ]) | go_big_quiet_step (fail) | quiet_step (fail))
  refine wpQuiet_nil ?_
  refine wpSegs_keep ?_
  go_wp2_with fail
  refine (K5.out _).mono ?_
  rintro e w2 ⟨rfl, hf⟩
  have HF := Lib.hid hf; clear hf
  go_wp2_with fail
  refine ⟨⟨⟨_, (by exact HF.out)⟩, rfl⟩, ?_⟩
  refine wpSegs_hard ?_
  go_wp2_with fail
  have HS := Lib.hid (HS.out.drew.fr0 HF.out)
  refine (K6.out _).mono ?_
  rintro e w1 ⟨rfl, hf⟩
  have HS := Lib.hid (HS.out.fr0 hf)
  clear hf
  clear HF hmd hmc
  go_wp2_with fail
  repeat ((first | refine wpSegs_soft ?_ | refine wpSegs_pure ?_ | refine wpSegs_here ?_); (repeat (first | go_big_quiet_step (fail) | quiet_step (fail))); refine wpQuiet_nil ?_)
  refine wpSegs_done ?_
  go_wp2_with fail
  go_ret
  exact ⟨rfl, HS.out.fr⟩
set_option maxRecDepth 100000 in
set_option maxHeartbeats 4000000 in
theorem apart_i (w : World) (c : Cfg) (h : Ok c) (kind i k kind' i' k' a b : Int) (ha : (a == (-1 : Int)) = false) (hb : (b == (-1 : Int)) = false) (he : kind' = kind) (hn : (i == i') = false) (hab : (a == b) = false)
    (K5 : Hid (∀ w, Calls Try.prog 20 #[mapV c, .int .i64 kind, .int .i64 i, .int .i64 k] w fun e w' => e = .returned (.int .i64 a) ∧ Fr [] w w'))
    (K6 : Hid (∀ w, Calls Try.prog 20 #[mapV c, .int .i64 kind', .int .i64 i', .int .i64 k'] w fun e w' => e = .returned (.int .i64 b) ∧ Fr [] w w')) :
    Calls Try.prog 6 #[cfgV c, .int .i64 kind, .int .i64 i, .int .i64 k, .int .i64 kind', .int .i64 i', .int .i64 k'] w fun e w' => e = .returned (.bool true) ∧ Fr [] w w' := by
  subst he
  have HO : Hid (∀ w, Calls Try.prog 9 #[.agg (cfgL c).toArray] w fun e w' => e = .returned (.tuple #[mapV c, .int .i64 0]) ∧ Fr [] w w') := fun w => of_good w c h
  have hrc : right c = true := by unfold right; simpa using h
  have hsz : (mapCells c).length = 24 := rfl
  have hone := oneCells c
  have HAT := Lib.hid (fun w kd i k => at_any w c h kd i k)
  unfold mapV at *
  have HS := Lib.hid ((Sep.nil (Fr.refl [] w)).new 24 (cfgL c))
  have HR : Hid (∀ w, Calls Try.prog 10 #[.agg (cfgL c).toArray] w fun e w' => e = .returned (.bool (right c)) ∧ Fr [] w w') := fun w => rright_any w c
  have hsz6 : (cfgL c).length = 6 := rfl
  rw [show cfgV c = .agg (cfgL c).toArray from rfl]
  go_enter Try.func6, Try.ntmps6
  go_wp2_with fail
  refine (alive_any _).mono ?_
  rintro e w1 ⟨rfl, hf⟩
  have HS := Lib.hid (HS.out.fr0 hf)
  clear hf
  go_wp2_with (first | (refine wpList_load_any 24 _ rfl rfl _ 0 rfl (cfgL c) _ (HS.out.blk 0 rfl).range Try.underlying24 rfl (by rw [hsz6]; kernel_rfl) ?_))
  refine (HO.out _).mono ?_
  rintro e w1 ⟨rfl, hf⟩
  have HS := Lib.hid (HS.out.fr0 hf)
  clear hf
  have HS := Lib.hid (HS.out.new 28 (mapCells c))
  go_wp2_with (first | (refine wpList_store_new 28 _ ((mapCells c)).toArray rfl _ _ rfl rfl rfl (by rw [List.size_toArray, hsz]; kernel_rfl) (by simp [hsz]) (all_oneCell_toArray hone) ?_))
  have hmd := (HS.out.blk 0 rfl).drew
  have hmc := (HS.out.blk 1 rfl).drew
  refine wp_region_fr [(1, [0, 1, 2, 3, 5, 6, 7, 8]), (2, [4]), (3, [9]), (0, [10, 11])] [] (by kernel_rfl) (by kernel_rfl) ?_
  simp only [theOps, nthOp, List.map_cons, List.map_nil, Array.getD_eq_getD_getElem?, List.getElem?_toArray, List.getElem?_cons_succ, List.getElem?_cons_zero, Option.getD_some]
  refine wpSegs_soft ?_
  repeat (first | (refine wpQuiet_load_mid 28 _ _ 0 (mapCells c) _ rfl rfl rfl (rangeAt_after hmd (by simp)) Try.underlying28 rfl (by rw [hsz]; kernel_rfl) ?_; simp only [Act.put, List.setIfInBounds_toArray, List.set_cons_zero, List.set_cons_succ]) | (refine wpQuiet_load_mid 24 _ _ 0 (cfgL c) _ rfl rfl rfl (rangeAt_after hmc (by simp)) Try.underlying24 rfl (by rw [hsz6]; kernel_rfl) ?_; simp only [Act.put, List.setIfInBounds_toArray, List.set_cons_zero, List.set_cons_succ]) | go_big_quiet_step (fail) | quiet_step (fail))
  refine wpQuiet_nil ?_
  refine wpSegs_keep ?_
  go_wp2_with fail
  refine (K5.out _).mono ?_
  rintro e w2 ⟨rfl, hf⟩
  have HF := Lib.hid hf; clear hf
  go_wp2_with fail
  refine ⟨⟨⟨_, (by exact HF.out)⟩, rfl⟩, ?_⟩
  refine wpSegs_hard ?_
  go_wp2_with fail
  have HS := Lib.hid (HS.out.drew.fr0 HF.out)
  refine (K6.out _).mono ?_
  rintro e w1 ⟨rfl, hf⟩
  have HS := Lib.hid (HS.out.fr0 hf)
  clear hf
  clear HF hmd hmc
  go_wp2_with fail
  repeat ((first | refine wpSegs_soft ?_ | refine wpSegs_pure ?_ | refine wpSegs_here ?_); (repeat (first | go_big_quiet_step (fail) | quiet_step (fail))); refine wpQuiet_nil ?_)
  refine wpSegs_done ?_
  go_wp2_with fail
  go_ret
  exact ⟨rfl, HS.out.fr⟩
set_option maxRecDepth 100000 in
set_option maxHeartbeats 4000000 in
theorem apart_k (w : World) (c : Cfg) (h : Ok c) (kind i k kind' i' k' a b : Int) (ha : (a == (-1 : Int)) = false) (hb : (b == (-1 : Int)) = false) (he : kind' = kind) (he2 : i' = i) (hn : (k == k') = false) (hab : (a == b) = false) (hl : b - a = k' - k) (bl : 0 - 20000 ≤ k' - k ∧ k' - k ≤ 20000)
    (K5 : Hid (∀ w, Calls Try.prog 20 #[mapV c, .int .i64 kind, .int .i64 i, .int .i64 k] w fun e w' => e = .returned (.int .i64 a) ∧ Fr [] w w'))
    (K6 : Hid (∀ w, Calls Try.prog 20 #[mapV c, .int .i64 kind', .int .i64 i', .int .i64 k'] w fun e w' => e = .returned (.int .i64 b) ∧ Fr [] w w')) :
    Calls Try.prog 6 #[cfgV c, .int .i64 kind, .int .i64 i, .int .i64 k, .int .i64 kind', .int .i64 i', .int .i64 k'] w fun e w' => e = .returned (.bool true) ∧ Fr [] w w' := by
  subst he he2
  have HO : Hid (∀ w, Calls Try.prog 9 #[.agg (cfgL c).toArray] w fun e w' => e = .returned (.tuple #[mapV c, .int .i64 0]) ∧ Fr [] w w') := fun w => of_good w c h
  have hrc : right c = true := by unfold right; simpa using h
  have hsz : (mapCells c).length = 24 := rfl
  have hone := oneCells c
  have HAT := Lib.hid (fun w kd i k => at_any w c h kd i k)
  unfold mapV at *
  have HS := Lib.hid ((Sep.nil (Fr.refl [] w)).new 24 (cfgL c))
  have HR : Hid (∀ w, Calls Try.prog 10 #[.agg (cfgL c).toArray] w fun e w' => e = .returned (.bool (right c)) ∧ Fr [] w w') := fun w => rright_any w c
  have hsz6 : (cfgL c).length = 6 := rfl
  rw [show cfgV c = .agg (cfgL c).toArray from rfl]
  go_enter Try.func6, Try.ntmps6
  go_wp2_with fail
  refine (alive_any _).mono ?_
  rintro e w1 ⟨rfl, hf⟩
  have HS := Lib.hid (HS.out.fr0 hf)
  clear hf
  go_wp2_with (first | (refine wpList_load_any 24 _ rfl rfl _ 0 rfl (cfgL c) _ (HS.out.blk 0 rfl).range Try.underlying24 rfl (by rw [hsz6]; kernel_rfl) ?_))
  refine (HO.out _).mono ?_
  rintro e w1 ⟨rfl, hf⟩
  have HS := Lib.hid (HS.out.fr0 hf)
  clear hf
  have HS := Lib.hid (HS.out.new 28 (mapCells c))
  go_wp2_with (first | (refine wpList_store_new 28 _ ((mapCells c)).toArray rfl _ _ rfl rfl rfl (by rw [List.size_toArray, hsz]; kernel_rfl) (by simp [hsz]) (all_oneCell_toArray hone) ?_))
  have hmd := (HS.out.blk 0 rfl).drew
  have hmc := (HS.out.blk 1 rfl).drew
  refine wp_region_fr [(1, [0, 1, 2, 3, 5, 6, 7, 8]), (2, [4]), (3, [9]), (0, [10, 11])] [] (by kernel_rfl) (by kernel_rfl) ?_
  simp only [theOps, nthOp, List.map_cons, List.map_nil, Array.getD_eq_getD_getElem?, List.getElem?_toArray, List.getElem?_cons_succ, List.getElem?_cons_zero, Option.getD_some]
  refine wpSegs_soft ?_
  repeat (first | (refine wpQuiet_load_mid 28 _ _ 0 (mapCells c) _ rfl rfl rfl (rangeAt_after hmd (by simp)) Try.underlying28 rfl (by rw [hsz]; kernel_rfl) ?_; simp only [Act.put, List.setIfInBounds_toArray, List.set_cons_zero, List.set_cons_succ]) | (refine wpQuiet_load_mid 24 _ _ 0 (cfgL c) _ rfl rfl rfl (rangeAt_after hmc (by simp)) Try.underlying24 rfl (by rw [hsz6]; kernel_rfl) ?_; simp only [Act.put, List.setIfInBounds_toArray, List.set_cons_zero, List.set_cons_succ]) | go_big_quiet_step (fail) | quiet_step (fail))
  refine wpQuiet_nil ?_
  refine wpSegs_keep ?_
  go_wp2_with fail
  refine (K5.out _).mono ?_
  rintro e w2 ⟨rfl, hf⟩
  have HF := Lib.hid hf; clear hf
  go_wp2_with fail
  refine ⟨⟨⟨_, (by exact HF.out)⟩, rfl⟩, ?_⟩
  refine wpSegs_hard ?_
  go_wp2_with fail
  have HS := Lib.hid (HS.out.drew.fr0 HF.out)
  refine (K6.out _).mono ?_
  rintro e w1 ⟨rfl, hf⟩
  have HS := Lib.hid (HS.out.fr0 hf)
  clear hf
  clear HF hmd hmc
  go_wp2_with fail
  repeat ((first | refine wpSegs_soft ?_ | refine wpSegs_pure ?_ | refine wpSegs_here ?_); (repeat (first | go_big_quiet_step (fail) | quiet_step (fail))); refine wpQuiet_nil ?_)
  refine wpSegs_done ?_
  go_wp2_with fail
  go_ret
  exact ⟨rfl, HS.out.fr⟩
set_option maxRecDepth 100000 in
set_option maxHeartbeats 4000000 in
theorem apart_e (w : World) (c : Cfg) (h : Ok c) (kind i k kind' i' k' a b : Int) (ha : (a == (-1 : Int)) = false) (hb : b = a) (he : kind' = kind) (he2 : i' = i) (he3 : k' = k)
    (K5 : Hid (∀ w, Calls Try.prog 20 #[mapV c, .int .i64 kind, .int .i64 i, .int .i64 k] w fun e w' => e = .returned (.int .i64 a) ∧ Fr [] w w'))
    (K6 : Hid (∀ w, Calls Try.prog 20 #[mapV c, .int .i64 kind', .int .i64 i', .int .i64 k'] w fun e w' => e = .returned (.int .i64 b) ∧ Fr [] w w')) :
    Calls Try.prog 6 #[cfgV c, .int .i64 kind, .int .i64 i, .int .i64 k, .int .i64 kind', .int .i64 i', .int .i64 k'] w fun e w' => e = .returned (.bool true) ∧ Fr [] w w' := by
  subst hb he he2 he3
  have HO : Hid (∀ w, Calls Try.prog 9 #[.agg (cfgL c).toArray] w fun e w' => e = .returned (.tuple #[mapV c, .int .i64 0]) ∧ Fr [] w w') := fun w => of_good w c h
  have hrc : right c = true := by unfold right; simpa using h
  have hsz : (mapCells c).length = 24 := rfl
  have hone := oneCells c
  have HAT := Lib.hid (fun w kd i k => at_any w c h kd i k)
  unfold mapV at *
  have HS := Lib.hid ((Sep.nil (Fr.refl [] w)).new 24 (cfgL c))
  have HR : Hid (∀ w, Calls Try.prog 10 #[.agg (cfgL c).toArray] w fun e w' => e = .returned (.bool (right c)) ∧ Fr [] w w') := fun w => rright_any w c
  have hsz6 : (cfgL c).length = 6 := rfl
  rw [show cfgV c = .agg (cfgL c).toArray from rfl]
  go_enter Try.func6, Try.ntmps6
  go_wp2_with fail
  refine (alive_any _).mono ?_
  rintro e w1 ⟨rfl, hf⟩
  have HS := Lib.hid (HS.out.fr0 hf)
  clear hf
  go_wp2_with (first | (refine wpList_load_any 24 _ rfl rfl _ 0 rfl (cfgL c) _ (HS.out.blk 0 rfl).range Try.underlying24 rfl (by rw [hsz6]; kernel_rfl) ?_))
  refine (HO.out _).mono ?_
  rintro e w1 ⟨rfl, hf⟩
  have HS := Lib.hid (HS.out.fr0 hf)
  clear hf
  have HS := Lib.hid (HS.out.new 28 (mapCells c))
  go_wp2_with (first | (refine wpList_store_new 28 _ ((mapCells c)).toArray rfl _ _ rfl rfl rfl (by rw [List.size_toArray, hsz]; kernel_rfl) (by simp [hsz]) (all_oneCell_toArray hone) ?_))
  have hmd := (HS.out.blk 0 rfl).drew
  have hmc := (HS.out.blk 1 rfl).drew
  refine wp_region_fr [(1, [0, 1, 2, 3, 5, 6, 7, 8]), (2, [4]), (3, [9]), (0, [10, 11])] [] (by kernel_rfl) (by kernel_rfl) ?_
  simp only [theOps, nthOp, List.map_cons, List.map_nil, Array.getD_eq_getD_getElem?, List.getElem?_toArray, List.getElem?_cons_succ, List.getElem?_cons_zero, Option.getD_some]
  refine wpSegs_soft ?_
  repeat (first | (refine wpQuiet_load_mid 28 _ _ 0 (mapCells c) _ rfl rfl rfl (rangeAt_after hmd (by simp)) Try.underlying28 rfl (by rw [hsz]; kernel_rfl) ?_; simp only [Act.put, List.setIfInBounds_toArray, List.set_cons_zero, List.set_cons_succ]) | (refine wpQuiet_load_mid 24 _ _ 0 (cfgL c) _ rfl rfl rfl (rangeAt_after hmc (by simp)) Try.underlying24 rfl (by rw [hsz6]; kernel_rfl) ?_; simp only [Act.put, List.setIfInBounds_toArray, List.set_cons_zero, List.set_cons_succ]) | go_big_quiet_step (fail) | quiet_step (fail))
  refine wpQuiet_nil ?_
  refine wpSegs_keep ?_
  go_wp2_with fail
  refine (K5.out _).mono ?_
  rintro e w2 ⟨rfl, hf⟩
  have HF := Lib.hid hf; clear hf
  go_wp2_with fail
  refine ⟨⟨⟨_, (by exact HF.out)⟩, rfl⟩, ?_⟩
  refine wpSegs_hard ?_
  go_wp2_with fail
  have HS := Lib.hid (HS.out.drew.fr0 HF.out)
  refine (K6.out _).mono ?_
  rintro e w1 ⟨rfl, hf⟩
  have HS := Lib.hid (HS.out.fr0 hf)
  clear hf
  clear HF hmd hmc
  go_wp2_with fail
  repeat ((first | refine wpSegs_soft ?_ | refine wpSegs_pure ?_ | refine wpSegs_here ?_); (repeat (first | go_big_quiet_step (fail) | quiet_step (fail))); refine wpQuiet_nil ?_)
  refine wpSegs_done ?_
  go_wp2_with fail
  go_ret
  exact ⟨rfl, HS.out.fr⟩
theorem apart_law (w : World) (c : Cfg) (kind i k kind' i' k' : Int) : Calls Try.prog 6 #[cfgV c, .int .i64 kind, .int .i64 i, .int .i64 k, .int .i64 kind', .int .i64 i', .int .i64 k'] w fun e w' => e = .returned (.bool true) ∧ Fr [] w w' := by
  by_cases h : Ok c
  rotate_left
  · exact apart_bad w c h kind i k kind' i' k'
  have K5 := Lib.hid (fun w => at_any w c h kind i k)
  have K6 := Lib.hid (fun w => at_any w c h kind' i' k')
  by_cases h1 : Is c kind i k
  rotate_left
  · exact apart_n1 w c h kind i k kind' i' k' _ _ (at_no h1) K5 K6
  obtain ⟨_, a0, a1⟩ := wh_place h h1
  rw [at_is h1] at K5
  by_cases h2 : Is c kind' i' k'
  rotate_left
  · exact apart_n2 w c h kind i k kind' i' k' _ _ (by simp; omega) (at_no h2) K5 K6
  obtain ⟨_, b0, b1⟩ := wh_place h h2
  rw [at_is h2] at K6
  by_cases e1 : kind = kind'
  rotate_left
  · exact apart_kd w c h kind i k kind' i' k' _ _ (by simp; omega) (by simp; omega) (by simpa using e1) (by simp; exact fun e => e1 (place_inj h h1 h2 e).1) K5 K6
  by_cases e2 : i = i'
  rotate_left
  · exact apart_i w c h kind i k kind' i' k' _ _ (by simp; omega) (by simp; omega) e1.symm (by simpa using e2) (by simp; exact fun e => e2 (place_inj h h1 h2 e).2.1) K5 K6
  by_cases e3 : k = k'
  rotate_left
  · have hb := size_bd h
    have hl : place c kind' i' k' - place c kind i k = k' - k := by subst e1 e2; exact place_lin h1 h2
    exact apart_k w c h kind i k kind' i' k' _ _ (by simp; omega) (by simp; omega) e1.symm e2.symm (by simpa using e3) (by simp; exact fun e => e3 (place_inj h h1 h2 e).2.2) hl (by omega) K5 K6
  subst e1 e2 e3
  exact apart_e w c h kind i k kind i k _ _ (by simp; omega) rfl rfl rfl rfl K5 K6
theorem apart_row (a b d f g l kind i k kind' i' k' : Int) (w : World) : Calls Try.prog 6 #[.agg #[.int .i64 a, .int .i64 b, .int .i64 d, .int .i64 f, .int .u64 g, .int .u64 l], .int .i64 kind, .int .i64 i, .int .i64 k, .int .i64 kind', .int .i64 i', .int .i64 k'] w fun e w' => e = .returned (.bool true) ∧ Fr [] w w' := apart_law w ⟨a, b, d, f, g, l⟩ kind i k kind' i' k'
end Go.Proofs.Ytjblonbfmdjpcaa
