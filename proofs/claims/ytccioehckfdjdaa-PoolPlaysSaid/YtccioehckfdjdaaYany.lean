/- What stands at a place, of every place. -/
import Derived.Test.YtccioehckfdjdaaYwh
set_option linter.unusedSimpArgs false
set_option linter.unusedVariables false
namespace Go.Proofs.Ytccioehckfdjdaa
open Go.RowKit Go.Tum Go.Tum.Y

/-- What is told of a place. -/
def Tells (c : Cfg) (p kind i k : Int) : Prop := ∀ w, Calls Try.prog 58 #[mapV c, .int .i64 p] w fun e w' => e = .returned (.tuple #[.int .i64 kind, .int .i64 i, .int .i64 k]) ∧ Fr [] w w'
theorem what_no (c : Cfg) (p : Int) (hp : p < 0 ∨ size c ≤ p) : Tells c p (-1) 0 0 := by
  intro w
  by_cases h : p < 0
  · exact what_out1 w c p (by simpa using h)
  · exact what_out2 w c p (by simp; omega) (by simp; omega)
theorem what_in {c : Cfg} (h : Ok c) {p : Int} (h0 : 0 ≤ p) (h1 : p < size c) : ∃ kd i k, Is c kd i k ∧ place c kd i k = p ∧ Tells c p kd i k := by
  obtain ⟨r0, r1, r2, r3, r4, r5, r6, r7, r8, r9, r10, r11, r12⟩ := row h
  by_cases hz : p = 0
  · subst hz
    exact ⟨0, 0, 0, ⟨by omega, by simp [cnt], by omega, by simp [eachP, each]⟩, by simp [place], fun w => what_0 w c (by simp; omega)⟩
  by_cases ht : p < fTag c
  · have hs := stride_bd h
    obtain ⟨i, hi⟩ : ∃ i, i = (p - 1) / stride c := ⟨_, rfl⟩
    obtain ⟨r, hr⟩ : ∃ r, r = (p - 1) % stride c := ⟨_, rfl⟩
    have e : p = 1 + (i * stride c + r) := by
      have := Int.mul_ediv_add_emod (p - 1) (stride c)
      rw [hi, hr, Int.mul_comm]; omega
    have hr0 : 0 ≤ r := by rw [hr]; exact Int.emod_nonneg _ (by omega)
    have hr1 : r < stride c := by rw [hr]; exact Int.emod_lt_of_pos _ (by omega)
    have hi0 : 0 ≤ i := by rw [hi]; exact Int.ediv_nonneg (by omega) (by omega)
    have hi1 : i < c.t := by
      rw [hi]
      refine Int.ediv_lt_of_lt_mul (by omega) ?_
      have : fTag c = 1 + c.t * stride c := rfl
      omega
    clear hi hr
    have ec := cap_stride c
    by_cases h6 : 8 ≤ r
    · have e1 : cnt c 6 = c.t := by simp [cnt]
      have e2 : eachP c 6 = cap c := by simp [eachP, each]
      have e3 : place c 6 i (r - 8) = 1 + i * stride c + 8 + (r - 8) := by simp [place, ownOf]
      exact ⟨6, i, r - 8, ⟨by omega, by omega, by omega, by omega⟩, by omega, fun w => what_6 w c p i r h ⟨hi0, hi1⟩ ⟨by omega, by omega⟩ e⟩
    by_cases h5 : 7 ≤ r
    · have e1 : cnt c 5 = c.t := by simp [cnt]
      have e2 : eachP c 5 = 1 := by simp [eachP, each]
      have e3 : place c 5 i (r - 7) = 1 + i * stride c + 7 + (r - 7) := by simp [place, ownOf]
      exact ⟨5, i, r - 7, ⟨by omega, by omega, by omega, by omega⟩, by omega, fun w => what_5 w c p i r h ⟨hi0, hi1⟩ ⟨by omega, by omega⟩ e⟩
    by_cases h4 : 6 ≤ r
    · have e1 : cnt c 4 = c.t := by simp [cnt]
      have e2 : eachP c 4 = 1 := by simp [eachP, each]
      have e3 : place c 4 i (r - 6) = 1 + i * stride c + 6 + (r - 6) := by simp [place, ownOf]
      exact ⟨4, i, r - 6, ⟨by omega, by omega, by omega, by omega⟩, by omega, fun w => what_4 w c p i r h ⟨hi0, hi1⟩ ⟨by omega, by omega⟩ e⟩
    by_cases h3 : 5 ≤ r
    · have e1 : cnt c 3 = c.t := by simp [cnt]
      have e2 : eachP c 3 = 1 := by simp [eachP, each]
      have e3 : place c 3 i (r - 5) = 1 + i * stride c + 5 + (r - 5) := by simp [place, ownOf]
      exact ⟨3, i, r - 5, ⟨by omega, by omega, by omega, by omega⟩, by omega, fun w => what_3 w c p i r h ⟨hi0, hi1⟩ ⟨by omega, by omega⟩ e⟩
    by_cases h2 : 1 ≤ r
    · have e1 : cnt c 2 = c.t := by simp [cnt]
      have e2 : eachP c 2 = 4 := by simp [eachP, each]
      have e3 : place c 2 i (r - 1) = 1 + i * stride c + 1 + (r - 1) := by simp [place, ownOf]
      exact ⟨2, i, r - 1, ⟨by omega, by omega, by omega, by omega⟩, by omega, fun w => what_2 w c p i r h ⟨hi0, hi1⟩ ⟨by omega, by omega⟩ e⟩
    have e1 : cnt c 1 = c.t := by simp [cnt]
    have e2 : eachP c 1 = 1 := by simp [eachP, each]
    have e3 : place c 1 i r = 1 + i * stride c + 0 + r := by simp [place, ownOf]
    exact ⟨1, i, r, ⟨by omega, by omega, by omega, by omega⟩, by omega, fun w => what_1 w c p i r h ⟨hi0, hi1⟩ ⟨by omega, by omega⟩ e⟩
  by_cases hr : p < fRoot c
  · obtain ⟨i, r, hr0, hi0, e⟩ : ∃ i r : Int, (r = 0 ∨ r = 1 ∨ r = 2) ∧ 0 ≤ i ∧ p = fTag c + (3 * i + r) := ⟨(p - fTag c) / 3, (p - fTag c) % 3, by omega, by omega, by omega⟩
    have ht := fun w => what_tag w c p i r h hr0 hi0 e hr
    rcases hr0 with rfl | rfl | rfl
    · have e1 : cnt c 7 = c.t := by simp [cnt]
      have e2 : eachP c 7 = 1 := by simp [eachP, each]
      have e3 : place c 7 i 0 = fTag c + i * 3 + 7 - 7 := by simp [place]
      exact ⟨7, i, 0, ⟨by omega, by omega, by omega, by omega⟩, by omega, ht⟩
    · have e1 : cnt c 8 = c.t := by simp [cnt]
      have e2 : eachP c 8 = 1 := by simp [eachP, each]
      have e3 : place c 8 i 0 = fTag c + i * 3 + 8 - 7 := by simp [place]
      exact ⟨8, i, 0, ⟨by omega, by omega, by omega, by omega⟩, by omega, ht⟩
    · have e1 : cnt c 9 = c.t := by simp [cnt]
      have e2 : eachP c 9 = 1 := by simp [eachP, each]
      have e3 : place c 9 i 0 = fTag c + i * 3 + 9 - 7 := by simp [place]
      exact ⟨9, i, 0, ⟨by omega, by omega, by omega, by omega⟩, by omega, ht⟩
  by_cases h10 : p < fLife c
  · have e1 : cnt c 10 = 16 := by simp [cnt]
    have e2 : eachP c 10 = 1 := by simp [eachP, each]
    have e3 : place c 10 (p - fRoot c) 0 = fRoot c + (p - fRoot c) * 1 + 0 := by simp [place, fromP, each]
    exact ⟨10, p - fRoot c, 0, ⟨by omega, by omega, by omega, by omega⟩, by omega, fun w => what_10 w c p (p - fRoot c) 0 h (by omega) (by omega) (by omega) h10⟩
  by_cases h11 : p < fTop c
  · have e1 : cnt c 11 = c.b := by simp [cnt]
    have e2 : eachP c 11 = 1 := by simp [eachP, each]
    have e3 : place c 11 (p - fLife c) 0 = fLife c + (p - fLife c) * 1 + 0 := by simp [place, fromP, each]
    exact ⟨11, p - fLife c, 0, ⟨by omega, by omega, by omega, by omega⟩, by omega, fun w => what_11 w c p (p - fLife c) 0 h (by omega) (by omega) (by omega) h11⟩
  by_cases h12 : p < fStack c
  · have e1 : cnt c 12 = 1 := by simp [cnt]
    have e2 : eachP c 12 = 1 := by simp [eachP, each]
    have e3 : place c 12 (p - fTop c) 0 = fTop c + (p - fTop c) * 1 + 0 := by simp [place, fromP, each]
    exact ⟨12, p - fTop c, 0, ⟨by omega, by omega, by omega, by omega⟩, by omega, fun w => what_12 w c p (p - fTop c) 0 h (by omega) (by omega) (by omega) h12⟩
  by_cases h13 : p < fLim c
  · have e1 : cnt c 13 = c.b := by simp [cnt]
    have e2 : eachP c 13 = 1 := by simp [eachP, each]
    have e3 : place c 13 (p - fStack c) 0 = fStack c + (p - fStack c) * 1 + 0 := by simp [place, fromP, each]
    exact ⟨13, p - fStack c, 0, ⟨by omega, by omega, by omega, by omega⟩, by omega, fun w => what_13 w c p (p - fStack c) 0 h (by omega) (by omega) (by omega) h13⟩
  by_cases h14 : p < fLimbo c
  · have e1 : cnt c 14 = 1 := by simp [cnt]
    have e2 : eachP c 14 = 1 := by simp [eachP, each]
    have e3 : place c 14 (p - fLim c) 0 = fLim c + (p - fLim c) * 1 + 0 := by simp [place, fromP, each]
    exact ⟨14, p - fLim c, 0, ⟨by omega, by omega, by omega, by omega⟩, by omega, fun w => what_14 w c p (p - fLim c) 0 h (by omega) (by omega) (by omega) h14⟩
  by_cases h15 : p < fWord c
  · have e1 : cnt c 15 = limit c := by simp [cnt]
    have e2 : eachP c 15 = 1 := by simp [eachP, each]
    have e3 : place c 15 (p - fLimbo c) 0 = fLimbo c + (p - fLimbo c) * 1 + 0 := by simp [place, fromP, each]
    exact ⟨15, p - fLimbo c, 0, ⟨by omega, by omega, by omega, by omega⟩, by omega, fun w => what_15 w c p (p - fLimbo c) 0 h (by omega) (by omega) (by omega) h15⟩
  have e1 : cnt c 16 = c.b := by simp [cnt]
  have e2 : eachP c 16 = 8 := by simp [eachP, each]
  obtain ⟨i, k, hi, hk, e⟩ : ∃ i k : Int, 0 ≤ i ∧ (0 ≤ k ∧ k < 8) ∧ p = fWord c + (i * 8 + k) := ⟨(p - fWord c) / 8, (p - fWord c) % 8, by omega, by omega, by omega⟩
  have e3 : place c 16 i k = fWord c + i * 8 + k := by simp [place, fromP, each]
  exact ⟨16, i, k, ⟨by omega, by omega, by omega, by omega⟩, by omega, fun w => what_16 w c p i k h hi hk e h1⟩
/-- No two things, nor places of one, are at one place. -/
theorem place_inj {c : Cfg} (h : Ok c) {kd i k kd' i' k' : Int} (h1 : Is c kd i k) (h2 : Is c kd' i' k') (he : place c kd i k = place c kd' i' k') : kd = kd' ∧ i = i' ∧ k = k' := by
  have e1 := (wh_place h h1).1
  have e2 := (wh_place h h2).1
  rw [he, e2] at e1
  simp only [Prod.mk.injEq] at e1
  exact ⟨e1.1.symm, e1.2.1.symm, e1.2.2.symm⟩
end Go.Proofs.Ytccioehckfdjdaa
