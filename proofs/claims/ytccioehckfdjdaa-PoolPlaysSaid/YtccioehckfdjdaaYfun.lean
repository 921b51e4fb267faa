/- The walks of package lay's small functions, and the document's. -/
import Derived.Test.YtccioehckfdjdaaChecked
import Derived.Test.YtccioehckfdjdaaYplain
import Derived.Test.YtccioehckfdjdaaMBase
set_option linter.unusedSimpArgs false
set_option linter.unusedVariables false
namespace Go.Proofs.Ytccioehckfdjdaa
open Go.RowKit Go.Tum Go.Tum.Y

set_option maxHeartbeats 4000000 in
theorem right_any (w : World) (c : Cfg) :
    Calls Try.prog 100 #[cfgV c] w fun e w' => e = .returned (.bool (right c)) ∧ Fr [] w w' := by
  unfold cfgV
  by_cases h0 : 1 ≤ c.t
  rotate_left
  · have d0 : decide (c.t ≥ 1) = false := by simp; omega
    have e : right c = false := by unfold right; simp; exact fun k => h0 k.t1
    rw [e]; clear e
    go_enter Try.func100, Try.ntmps100
    go_wp2_with fail
    go_ret
    exact ⟨rfl, (Fr.refl [] _).alloc _⟩
  have d0 : decide (c.t ≥ 1) = true := by simp; omega
  by_cases h1 : c.t ≤ 8
  rotate_left
  · have d1 : decide (c.t ≤ 8) = false := by simp; omega
    have e : right c = false := by unfold right; simp; exact fun k => h1 k.t8
    rw [e]; clear e
    go_enter Try.func100, Try.ntmps100
    go_wp2_with fail
    go_ret
    exact ⟨rfl, (Fr.refl [] _).alloc _⟩
  have d1 : decide (c.t ≤ 8) = true := by simp; omega
  by_cases h2 : 1 ≤ c.b
  rotate_left
  · have d2 : decide (c.b ≥ 1) = false := by simp; omega
    have e : right c = false := by unfold right; simp; exact fun k => h2 k.b1
    rw [e]; clear e
    go_enter Try.func100, Try.ntmps100
    go_wp2_with fail
    go_ret
    exact ⟨rfl, (Fr.refl [] _).alloc _⟩
  have d2 : decide (c.b ≥ 1) = true := by simp; omega
  by_cases h3 : c.b ≤ 64
  rotate_left
  · have d3 : decide (c.b ≤ 64) = false := by simp; omega
    have e : right c = false := by unfold right; simp; exact fun k => h3 k.b64
    rw [e]; clear e
    go_enter Try.func100, Try.ntmps100
    go_wp2_with fail
    go_ret
    exact ⟨rfl, (Fr.refl [] _).alloc _⟩
  have d3 : decide (c.b ≤ 64) = true := by simp; omega
  by_cases h4 : 0 ≤ c.w
  rotate_left
  · have d4 : decide (c.w ≥ 0) = false := by simp; omega
    have e : right c = false := by unfold right; simp; exact fun k => h4 k.w0
    rw [e]; clear e
    go_enter Try.func100, Try.ntmps100
    go_wp2_with fail
    go_ret
    exact ⟨rfl, (Fr.refl [] _).alloc _⟩
  have d4 : decide (c.w ≥ 0) = true := by simp; omega
  by_cases h5 : c.w ≤ 64
  rotate_left
  · have d5 : decide (c.w ≤ 64) = false := by simp; omega
    have e : right c = false := by unfold right; simp; exact fun k => h5 k.w64
    rw [e]; clear e
    go_enter Try.func100, Try.ntmps100
    go_wp2_with fail
    go_ret
    exact ⟨rfl, (Fr.refl [] _).alloc _⟩
  have d5 : decide (c.w ≤ 64) = true := by simp; omega
  by_cases h6 : 1 ≤ c.f
  rotate_left
  · have d6 : decide (c.f ≥ 1) = false := by simp; omega
    have e : right c = false := by unfold right; simp; exact fun k => h6 k.f1
    rw [e]; clear e
    go_enter Try.func100, Try.ntmps100
    go_wp2_with fail
    go_ret
    exact ⟨rfl, (Fr.refl [] _).alloc _⟩
  have d6 : decide (c.f ≥ 1) = true := by simp; omega
  by_cases h7 : c.f ≤ 1000
  rotate_left
  · have d7 : decide (c.f ≤ 1000) = false := by simp; omega
    have e : right c = false := by unfold right; simp; exact fun k => h7 k.f1000
    rw [e]; clear e
    go_enter Try.func100, Try.ntmps100
    go_wp2_with fail
    go_ret
    exact ⟨rfl, (Fr.refl [] _).alloc _⟩
  have d7 : decide (c.f ≤ 1000) = true := by simp; omega
  by_cases h8 : c.fi ≤ c.la
  rotate_left
  · have d8 : decide (c.fi ≤ c.la) = false := by simp; omega
    have e : right c = false := by unfold right; simp; exact fun k => h8 k.fl
    rw [e]; clear e
    go_enter Try.func100, Try.ntmps100
    go_wp2_with fail
    go_ret
    exact ⟨rfl, (Fr.refl [] _).alloc _⟩
  have d8 : decide (c.fi ≤ c.la) = true := by simp; omega
  by_cases h9 : c.la ≤ 140737488355328
  rotate_left
  · have d9 : decide (c.la ≤ 140737488355328) = false := by simp; omega
    have e : right c = false := by unfold right; simp; exact fun k => h9 k.l47
    rw [e]; clear e
    go_enter Try.func100, Try.ntmps100
    go_wp2_with fail
    go_ret
    exact ⟨rfl, (Fr.refl [] _).alloc _⟩
  have d9 : decide (c.la ≤ 140737488355328) = true := by simp; omega
  have e : right c = true := by unfold right; simp; exact ⟨h0, h1, h2, h3, h4, h5, h6, h7, h8, h9⟩
  rw [e]; clear e
  go_enter Try.func100, Try.ntmps100
  go_wp2_with fail
  go_ret
  exact ⟨rfl, (Fr.refl [] _).alloc _⟩

set_option maxHeartbeats 4000000 in
theorem rright_any (w : World) (c : Cfg) :
    Calls Try.prog 16 #[cfgV c] w fun e w' => e = .returned (.bool (right c)) ∧ Fr [] w w' := by
  unfold cfgV
  by_cases h0 : 1 ≤ c.t
  rotate_left
  · have d0 : decide (c.t > 0) = false := by simp; omega
    have e : right c = false := by unfold right; simp; exact fun k => h0 k.t1
    rw [e]; clear e
    go_enter Try.func16, Try.ntmps16
    go_wp2_with fail
    go_ret
    exact ⟨rfl, (Fr.refl [] _).alloc _⟩
  have d0 : decide (c.t > 0) = true := by simp; omega
  by_cases h1 : c.t ≤ 8
  rotate_left
  · have d1 : decide (c.t < 9) = false := by simp; omega
    have e : right c = false := by unfold right; simp; exact fun k => h1 k.t8
    rw [e]; clear e
    go_enter Try.func16, Try.ntmps16
    go_wp2_with fail
    go_ret
    exact ⟨rfl, (Fr.refl [] _).alloc _⟩
  have d1 : decide (c.t < 9) = true := by simp; omega
  by_cases h2 : 1 ≤ c.b
  rotate_left
  · have d2 : decide (c.b > 0) = false := by simp; omega
    have e : right c = false := by unfold right; simp; exact fun k => h2 k.b1
    rw [e]; clear e
    go_enter Try.func16, Try.ntmps16
    go_wp2_with fail
    go_ret
    exact ⟨rfl, (Fr.refl [] _).alloc _⟩
  have d2 : decide (c.b > 0) = true := by simp; omega
  by_cases h3 : c.b ≤ 64
  rotate_left
  · have d3 : decide (c.b < 65) = false := by simp; omega
    have e : right c = false := by unfold right; simp; exact fun k => h3 k.b64
    rw [e]; clear e
    go_enter Try.func16, Try.ntmps16
    go_wp2_with fail
    go_ret
    exact ⟨rfl, (Fr.refl [] _).alloc _⟩
  have d3 : decide (c.b < 65) = true := by simp; omega
  by_cases h4 : 0 ≤ c.w
  rotate_left
  · have d4 : decide (c.w ≥ 0) = false := by simp; omega
    have e : right c = false := by unfold right; simp; exact fun k => h4 k.w0
    rw [e]; clear e
    go_enter Try.func16, Try.ntmps16
    go_wp2_with fail
    go_ret
    exact ⟨rfl, (Fr.refl [] _).alloc _⟩
  have d4 : decide (c.w ≥ 0) = true := by simp; omega
  by_cases h5 : c.w ≤ 64
  rotate_left
  · have d5 : decide (c.w < 65) = false := by simp; omega
    have e : right c = false := by unfold right; simp; exact fun k => h5 k.w64
    rw [e]; clear e
    go_enter Try.func16, Try.ntmps16
    go_wp2_with fail
    go_ret
    exact ⟨rfl, (Fr.refl [] _).alloc _⟩
  have d5 : decide (c.w < 65) = true := by simp; omega
  by_cases h6 : 1 ≤ c.f
  rotate_left
  · have d6 : decide (c.f > 0) = false := by simp; omega
    have e : right c = false := by unfold right; simp; exact fun k => h6 k.f1
    rw [e]; clear e
    go_enter Try.func16, Try.ntmps16
    go_wp2_with fail
    go_ret
    exact ⟨rfl, (Fr.refl [] _).alloc _⟩
  have d6 : decide (c.f > 0) = true := by simp; omega
  by_cases h7 : c.f ≤ 1000
  rotate_left
  · have d7 : decide (c.f < 1001) = false := by simp; omega
    have e : right c = false := by unfold right; simp; exact fun k => h7 k.f1000
    rw [e]; clear e
    go_enter Try.func16, Try.ntmps16
    go_wp2_with fail
    go_ret
    exact ⟨rfl, (Fr.refl [] _).alloc _⟩
  have d7 : decide (c.f < 1001) = true := by simp; omega
  by_cases h8 : c.fi ≤ c.la
  rotate_left
  · have d8 : decide (c.fi ≤ c.la) = false := by simp; omega
    have e : right c = false := by unfold right; simp; exact fun k => h8 k.fl
    rw [e]; clear e
    go_enter Try.func16, Try.ntmps16
    go_wp2_with fail
    go_ret
    exact ⟨rfl, (Fr.refl [] _).alloc _⟩
  have d8 : decide (c.fi ≤ c.la) = true := by simp; omega
  by_cases h9 : c.la ≤ 140737488355328
  rotate_left
  · have d9 : decide (c.la ≤ 140737488355328) = false := by simp; omega
    have e : right c = false := by unfold right; simp; exact fun k => h9 k.l47
    rw [e]; clear e
    go_enter Try.func16, Try.ntmps16
    go_wp2_with fail
    go_ret
    exact ⟨rfl, (Fr.refl [] _).alloc _⟩
  have d9 : decide (c.la ≤ 140737488355328) = true := by simp; omega
  have e : right c = true := by unfold right; simp; exact ⟨h0, h1, h2, h3, h4, h5, h6, h7, h8, h9⟩
  rw [e]; clear e
  go_enter Try.func16, Try.ntmps16
  go_wp2_with fail
  go_ret
  exact ⟨rfl, (Fr.refl [] _).alloc _⟩

end Go.Proofs.Ytccioehckfdjdaa
