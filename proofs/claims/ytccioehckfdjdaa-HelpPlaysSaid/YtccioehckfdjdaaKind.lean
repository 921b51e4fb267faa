/- Which places transactions write, and which are words; plain. -/
import Derived.Test.YtccioehckfdjdaaWha
import Derived.Test.YtccioehckfdjdaaYwh
set_option linter.unusedSimpArgs false
set_option linter.unusedVariables false
namespace Go.Tum.Y
theorem kind_tag {c : Cfg} (h : Ok c) (p : Int) : 7 ≤ (whA c p).1 ↔ fTag c ≤ p ∧ p < size c := by
  obtain ⟨r0, r1, r2, r3, r4, r5, r6, r7, r8, r9, r10, r11, r12⟩ := row h
  unfold whA
  by_cases hp : 0 ≤ p ∧ p < size c
  · rw [if_pos hp]
    unfold wh
    repeat (first | (split; first | (dsimp only; omega) | skip) | (dsimp only; omega))
  · rw [if_neg hp]
    dsimp only
    omega
theorem kind_word {c : Cfg} (h : Ok c) (p : Int) : (whA c p).1 = 16 ↔ fWord c ≤ p ∧ p < size c := by
  obtain ⟨r0, r1, r2, r3, r4, r5, r6, r7, r8, r9, r10, r11, r12⟩ := row h
  unfold whA
  by_cases hp : 0 ≤ p ∧ p < size c
  · rw [if_pos hp]
    unfold wh
    repeat (first | (split; first | (dsimp only; omega) | skip) | (dsimp only; omega))
  · rw [if_neg hp]
    dsimp only
    omega
theorem word_block {c : Cfg} (h : Ok c) (p : Int) (hp : fWord c ≤ p ∧ p < size c) : (whA c p).2.1 = (p - fWord c) / 8 := by
  obtain ⟨r0, r1, r2, r3, r4, r5, r6, r7, r8, r9, r10, r11, r12⟩ := row h
  unfold whA
  rw [if_pos (by omega)]
  unfold wh
  repeat rw [if_neg (by omega)]
end Go.Tum.Y
