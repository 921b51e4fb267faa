/- What stands at whatever place: as a function. -/
import Derived.Test.YtccioehckfdjdaaYany
set_option linter.unusedSimpArgs false
set_option linter.unusedVariables false
namespace Go.Tum.Y
def whA (c : Cfg) (p : Int) : Int × Int × Int := if 0 ≤ p ∧ p < size c then wh c p else (-1, 0, 0)
end Go.Tum.Y
namespace Go.Proofs.Ytccioehckfdjdaa
open Go.RowKit Go.Tum Go.Tum.Y
theorem what_all {c : Cfg} (h : Ok c) (p : Int) : Tells c p (whA c p).1 (whA c p).2.1 (whA c p).2.2 := by
  unfold whA
  by_cases hp : 0 ≤ p ∧ p < size c
  · rw [if_pos hp]
    obtain ⟨kd, i, k, hi, rfl, ht⟩ := what_in h hp.1 hp.2
    rw [(wh_place h hi).1]; exact ht
  · rw [if_neg hp]
    exact what_no c p (by omega)
theorem whA_place {c : Cfg} (h : Ok c) {kd i k : Int} (hi : Is c kd i k) : whA c (place c kd i k) = (kd, i, k) := by
  obtain ⟨e, h0, h1⟩ := wh_place h hi
  unfold whA
  rw [if_pos ⟨h0, h1⟩, e]
theorem whA_is {c : Cfg} (h : Ok c) (p : Int) (hp : 0 ≤ p ∧ p < size c) : Is c (whA c p).1 (whA c p).2.1 (whA c p).2.2 ∧ place c (whA c p).1 (whA c p).2.1 (whA c p).2.2 = p := by
  obtain ⟨kd, i, k, hi, rfl, ht⟩ := what_in h hp.1 hp.2
  rw [whA_place h hi]
  exact ⟨hi, rfl⟩
theorem whA_bd {c : Cfg} (h : Ok c) (p : Int) : -1 ≤ (whA c p).1 ∧ (whA c p).1 ≤ 16 := by
  by_cases hp : 0 ≤ p ∧ p < size c
  · have := is_kind (whA_is h p hp).1
    omega
  · unfold whA; rw [if_neg hp]; simp
/-- A thing that stands somewhere: how far its numbers go. -/
theorem is_bd {c : Cfg} (h : Ok c) {kd i k : Int} (hi : Is c kd i k) : 0 ≤ i ∧ i < 18100 ∧ 0 ≤ k ∧ k < 18100 := by
  have hb := is_kind hi
  obtain ⟨h0, h1, h2, h3⟩ := hi
  have hc := cap_bd h
  have hl := limit_pos h
  have := h.t8; have := h.b64
  unfold cnt at h1
  unfold eachP each at h3
  refine ⟨h0, ?_, h2, ?_⟩
  · revert h1; repeat (first | (split; intro h1; omega) | split) <;> intro h1 <;> omega
  · revert h3; repeat (first | (split; intro h1; omega) | split) <;> intro h1 <;> omega
theorem whA_bd2 {c : Cfg} (h : Ok c) (p : Int) : 0 ≤ (whA c p).2.1 ∧ (whA c p).2.1 < 18100 ∧ 0 ≤ (whA c p).2.2 ∧ (whA c p).2.2 < 18100 := by
  by_cases hp : 0 ≤ p ∧ p < size c
  · exact is_bd h (whA_is h p hp).1
  · unfold whA; rw [if_neg hp]; simp
end Go.Proofs.Ytccioehckfdjdaa
