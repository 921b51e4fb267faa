/- The law LayWhats, walked. -/
import Derived.Test.YtjblonbfmdjpcaaYrwhat
set_option linter.unusedSimpArgs false
set_option linter.unusedVariables false
namespace Go.Proofs.Ytjblonbfmdjpcaa
open Go.RowKit Go.Tum Go.Tum.Y
set_option maxRecDepth 100000 in
set_option maxHeartbeats 4000000 in
theorem whats_s0 (w : World) (c : Cfg) (p : Int) (hrc : right c = false) : Calls Try.prog 5 #[cfgV c, .int .i64 p] w fun e w' => e = .returned (.bool true) ∧ Fr [] w w' := by
  have HS := Lib.hid ((Sep.nil (Fr.refl [] w)).new 24 (cfgL c))
  have HR : Hid (∀ w, Calls Try.prog 10 #[.agg (cfgL c).toArray] w fun e w' => e = .returned (.bool (right c)) ∧ Fr [] w w') := fun w => rright_any w c
  have hsz6 : (cfgL c).length = 6 := rfl
  have g0 : (cfgL c)[0]? = some (.int .i64 c.t) := rfl
  have g1 : (cfgL c)[1]? = some (.int .i64 c.b) := rfl
  have g2 : (cfgL c)[2]? = some (.int .i64 c.w) := rfl
  rw [show cfgV c = .agg (cfgL c).toArray from rfl]
  generalize cfgL c = cl at *
  go_enter Try.func5, Try.ntmps5
  go_wp2_with fail
  refine (alive_any _).mono ?_
  rintro e w1 ⟨rfl, hf⟩
  have HS := Lib.hid (HS.out.fr0 hf)
  clear hf
  go_wp2_with (first | (refine wpList_load_any 24 _ rfl rfl _ 0 rfl cl _ (HS.out.blk 0 rfl).range Try.underlying24 rfl (by rw [hsz6]; kernel_rfl) ?_))
  refine (HR.out _).mono ?_
  rintro e w1 ⟨rfl, hf⟩
  have HS := Lib.hid (HS.out.fr0 hf)
  clear hf
  rw [hrc]
  have c0 := ((HS.out.blk 0 rfl).cell 0).trans g0
  have c1 := ((HS.out.blk 0 rfl).cell 1).trans g1
  have c2 := ((HS.out.blk 0 rfl).cell 2).trans g2
  go_wp2_with fail
  go_ret
  exact ⟨rfl, HS.out.fr⟩
set_option maxRecDepth 100000 in
set_option maxHeartbeats 4000000 in
theorem whats_s1 (w : World) (c : Cfg) (p : Int) (hrc : right c = true) (d1 : decide (c.t > 3) = true) : Calls Try.prog 5 #[cfgV c, .int .i64 p] w fun e w' => e = .returned (.bool true) ∧ Fr [] w w' := by
  have HS := Lib.hid ((Sep.nil (Fr.refl [] w)).new 24 (cfgL c))
  have HR : Hid (∀ w, Calls Try.prog 10 #[.agg (cfgL c).toArray] w fun e w' => e = .returned (.bool (right c)) ∧ Fr [] w w') := fun w => rright_any w c
  have hsz6 : (cfgL c).length = 6 := rfl
  have g0 : (cfgL c)[0]? = some (.int .i64 c.t) := rfl
  have g1 : (cfgL c)[1]? = some (.int .i64 c.b) := rfl
  have g2 : (cfgL c)[2]? = some (.int .i64 c.w) := rfl
  rw [show cfgV c = .agg (cfgL c).toArray from rfl]
  generalize cfgL c = cl at *
  go_enter Try.func5, Try.ntmps5
  go_wp2_with fail
  refine (alive_any _).mono ?_
  rintro e w1 ⟨rfl, hf⟩
  have HS := Lib.hid (HS.out.fr0 hf)
  clear hf
  go_wp2_with (first | (refine wpList_load_any 24 _ rfl rfl _ 0 rfl cl _ (HS.out.blk 0 rfl).range Try.underlying24 rfl (by rw [hsz6]; kernel_rfl) ?_))
  refine (HR.out _).mono ?_
  rintro e w1 ⟨rfl, hf⟩
  have HS := Lib.hid (HS.out.fr0 hf)
  clear hf
  rw [hrc]
  have c0 := ((HS.out.blk 0 rfl).cell 0).trans g0
  have c1 := ((HS.out.blk 0 rfl).cell 1).trans g1
  have c2 := ((HS.out.blk 0 rfl).cell 2).trans g2
  go_wp2_with fail
  go_ret
  exact ⟨rfl, HS.out.fr⟩
set_option maxRecDepth 100000 in
set_option maxHeartbeats 4000000 in
theorem whats_s2 (w : World) (c : Cfg) (p : Int) (hrc : right c = true) (d1 : decide (c.t > 3) = false) (d2 : decide (c.b > 8) = true) : Calls Try.prog 5 #[cfgV c, .int .i64 p] w fun e w' => e = .returned (.bool true) ∧ Fr [] w w' := by
  have HS := Lib.hid ((Sep.nil (Fr.refl [] w)).new 24 (cfgL c))
  have HR : Hid (∀ w, Calls Try.prog 10 #[.agg (cfgL c).toArray] w fun e w' => e = .returned (.bool (right c)) ∧ Fr [] w w') := fun w => rright_any w c
  have hsz6 : (cfgL c).length = 6 := rfl
  have g0 : (cfgL c)[0]? = some (.int .i64 c.t) := rfl
  have g1 : (cfgL c)[1]? = some (.int .i64 c.b) := rfl
  have g2 : (cfgL c)[2]? = some (.int .i64 c.w) := rfl
  rw [show cfgV c = .agg (cfgL c).toArray from rfl]
  generalize cfgL c = cl at *
  go_enter Try.func5, Try.ntmps5
  go_wp2_with fail
  refine (alive_any _).mono ?_
  rintro e w1 ⟨rfl, hf⟩
  have HS := Lib.hid (HS.out.fr0 hf)
  clear hf
  go_wp2_with (first | (refine wpList_load_any 24 _ rfl rfl _ 0 rfl cl _ (HS.out.blk 0 rfl).range Try.underlying24 rfl (by rw [hsz6]; kernel_rfl) ?_))
  refine (HR.out _).mono ?_
  rintro e w1 ⟨rfl, hf⟩
  have HS := Lib.hid (HS.out.fr0 hf)
  clear hf
  rw [hrc]
  have c0 := ((HS.out.blk 0 rfl).cell 0).trans g0
  have c1 := ((HS.out.blk 0 rfl).cell 1).trans g1
  have c2 := ((HS.out.blk 0 rfl).cell 2).trans g2
  go_wp2_with fail
  go_ret
  exact ⟨rfl, HS.out.fr⟩
set_option maxRecDepth 100000 in
set_option maxHeartbeats 4000000 in
theorem whats_s3 (w : World) (c : Cfg) (p : Int) (hrc : right c = true) (d1 : decide (c.t > 3) = false) (d2 : decide (c.b > 8) = false) (d3 : decide (c.w > 9) = true) : Calls Try.prog 5 #[cfgV c, .int .i64 p] w fun e w' => e = .returned (.bool true) ∧ Fr [] w w' := by
  have HS := Lib.hid ((Sep.nil (Fr.refl [] w)).new 24 (cfgL c))
  have HR : Hid (∀ w, Calls Try.prog 10 #[.agg (cfgL c).toArray] w fun e w' => e = .returned (.bool (right c)) ∧ Fr [] w w') := fun w => rright_any w c
  have hsz6 : (cfgL c).length = 6 := rfl
  have g0 : (cfgL c)[0]? = some (.int .i64 c.t) := rfl
  have g1 : (cfgL c)[1]? = some (.int .i64 c.b) := rfl
  have g2 : (cfgL c)[2]? = some (.int .i64 c.w) := rfl
  rw [show cfgV c = .agg (cfgL c).toArray from rfl]
  generalize cfgL c = cl at *
  go_enter Try.func5, Try.ntmps5
  go_wp2_with fail
  refine (alive_any _).mono ?_
  rintro e w1 ⟨rfl, hf⟩
  have HS := Lib.hid (HS.out.fr0 hf)
  clear hf
  go_wp2_with (first | (refine wpList_load_any 24 _ rfl rfl _ 0 rfl cl _ (HS.out.blk 0 rfl).range Try.underlying24 rfl (by rw [hsz6]; kernel_rfl) ?_))
  refine (HR.out _).mono ?_
  rintro e w1 ⟨rfl, hf⟩
  have HS := Lib.hid (HS.out.fr0 hf)
  clear hf
  rw [hrc]
  have c0 := ((HS.out.blk 0 rfl).cell 0).trans g0
  have c1 := ((HS.out.blk 0 rfl).cell 1).trans g1
  have c2 := ((HS.out.blk 0 rfl).cell 2).trans g2
  go_wp2_with fail
  go_ret
  exact ⟨rfl, HS.out.fr⟩
set_option maxRecDepth 100000 in
set_option maxHeartbeats 4000000 in
theorem whats_good (w : World) (c : Cfg) (h : Ok c) (p kd i k : Int) (d1 : decide (c.t > 3) = false) (d2 : decide (c.b > 8) = false) (d3 : decide (c.w > 9) = false) (HW : Hid (Tells c p kd i k)) (f : Found c p kd i k) : Calls Try.prog 5 #[cfgV c, .int .i64 p] w fun e w' => e = .returned (.bool true) ∧ Fr [] w w' := by
  have HO : Hid (∀ w, Calls Try.prog 9 #[.agg (cfgL c).toArray] w fun e w' => e = .returned (.tuple #[mapV c, .int .i64 0]) ∧ Fr [] w w') := fun w => of_good w c h
  have hrc : right c = true := by unfold right; simpa using h
  have hsz : (mapCells c).length = 24 := rfl
  have hone := oneCells c
  have HAT := Lib.hid (fun w kd i k => at_any w c h kd i k)
  have HD : Hid (∀ w, Calls Try.prog 23 #[.agg (cfgL c).toArray, .int .i64 p] w fun e w' => e = .returned (.agg #[.int .i64 kd, .int .i64 i, .int .i64 k]) ∧ Fr [] w w') := fun w => rwhat_any w c h p kd i k f
  unfold Tells mapV at *
  generalize mapCells c = cs at *
  have HS := Lib.hid ((Sep.nil (Fr.refl [] w)).new 24 (cfgL c))
  have HR : Hid (∀ w, Calls Try.prog 10 #[.agg (cfgL c).toArray] w fun e w' => e = .returned (.bool (right c)) ∧ Fr [] w w') := fun w => rright_any w c
  have hsz6 : (cfgL c).length = 6 := rfl
  have g0 : (cfgL c)[0]? = some (.int .i64 c.t) := rfl
  have g1 : (cfgL c)[1]? = some (.int .i64 c.b) := rfl
  have g2 : (cfgL c)[2]? = some (.int .i64 c.w) := rfl
  rw [show cfgV c = .agg (cfgL c).toArray from rfl]
  generalize cfgL c = cl at *
  go_enter Try.func5, Try.ntmps5
  go_wp2_with fail
  refine (alive_any _).mono ?_
  rintro e w1 ⟨rfl, hf⟩
  have HS := Lib.hid (HS.out.fr0 hf)
  clear hf
  go_wp2_with (first | (refine wpList_load_any 24 _ rfl rfl _ 0 rfl cl _ (HS.out.blk 0 rfl).range Try.underlying24 rfl (by rw [hsz6]; kernel_rfl) ?_))
  refine (HR.out _).mono ?_
  rintro e w1 ⟨rfl, hf⟩
  have HS := Lib.hid (HS.out.fr0 hf)
  clear hf
  rw [hrc]
  have c0 := ((HS.out.blk 0 rfl).cell 0).trans g0
  have c1 := ((HS.out.blk 0 rfl).cell 1).trans g1
  have c2 := ((HS.out.blk 0 rfl).cell 2).trans g2
  go_wp2_with (first | (refine wpList_load_any 24 _ rfl rfl _ 0 rfl cl _ (HS.out.blk 0 rfl).range Try.underlying24 rfl (by rw [hsz6]; kernel_rfl) ?_))
  refine (HO.out _).mono ?_
  rintro e w1 ⟨rfl, hf⟩
  have HS := Lib.hid (HS.out.fr0 hf)
  clear hf
  have HS := Lib.hid (HS.out.new 28 cs)
  go_wp2_with (first | (refine wpList_store_new 28 _ (cs).toArray rfl _ _ rfl rfl rfl (by rw [List.size_toArray, hsz]; kernel_rfl) (by simp [hsz]) (all_oneCell_toArray hone) ?_) | (refine wpList_load_any 28 _ rfl rfl _ 0 rfl cs _ (HS.out.blk 0 rfl).range Try.underlying28 rfl (by rw [hsz]; kernel_rfl) ?_))
  refine (HW.out _).mono ?_
  rintro e w1 ⟨rfl, hf⟩
  have HS := Lib.hid (HS.out.fr0 hf)
  clear hf
  go_wp2_with (first | (refine wpList_load_any 24 _ rfl rfl _ 0 rfl cl _ (HS.out.blk 1 rfl).range Try.underlying24 rfl (by rw [hsz6]; kernel_rfl) ?_))
  refine (HD.out _).mono ?_
  rintro e w1 ⟨rfl, hf⟩
  have HS := Lib.hid (HS.out.fr0 hf)
  clear hf
  go_wp2_with fail
  go_ret
  exact ⟨rfl, HS.out.fr⟩
theorem whats_law (w : World) (c : Cfg) (p : Int) : Calls Try.prog 5 #[cfgV c, .int .i64 p] w fun e w' => e = .returned (.bool true) ∧ Fr [] w w' := by
  by_cases h : Ok c
  rotate_left
  · exact whats_s0 w c p (by unfold right; simpa using h)
  have hr : right c = true := by unfold right; simpa using h
  by_cases h1 : 3 < c.t
  · exact whats_s1 w c p hr (by simpa using h1)
  by_cases h2 : 8 < c.b
  · exact whats_s2 w c p hr (by simpa using h1) (by simpa using h2)
  by_cases h3 : 9 < c.w
  · exact whats_s3 w c p hr (by simpa using h1) (by simpa using h2) (by simpa using h3)
  by_cases hp : 0 ≤ p ∧ p < size c
  · obtain ⟨kd, i, k, q1, q2, q3⟩ := what_in h hp.1 hp.2
    exact whats_good w c h p kd i k (by simpa using h1) (by simpa using h2) (by simpa using h3) q3 (.inl ⟨q1, q2⟩)
  · have hp' : p < 0 ∨ size c ≤ p := by omega
    exact whats_good w c h p (-1) 0 0 (by simpa using h1) (by simpa using h2) (by simpa using h3) (what_no c p hp') (.inr ⟨hp', rfl, rfl, rfl⟩)
theorem whats_row (a b d f g l p : Int) (w : World) : Calls Try.prog 5 #[.agg #[.int .i64 a, .int .i64 b, .int .i64 d, .int .i64 f, .int .u64 g, .int .u64 l], .int .i64 p] w fun e w' => e = .returned (.bool true) ∧ Fr [] w w' := whats_law w ⟨a, b, d, f, g, l⟩ p
end Go.Proofs.Ytjblonbfmdjpcaa
