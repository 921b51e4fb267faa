/- What the document's Write leaves on a tape of n replies: the n-th step, or nothing more. -/
import Derived.Test.YtahoadnagadncaaScwrite
set_option linter.unusedSimpArgs false
set_option linter.unusedVariables false
namespace Go.Tum.Sc
open Go.Tum Go.Tum.Y
/-- The d-th step of a log of k entries. -/
def opAt (c : Cfg) (who seq : Int) (K : List (Int × Int)) (k d : Nat) : P6 := if d < k then logOp c who K d else if d = k then lenOp c who k else openOp c who seq
def upTo (o : Nat → P6) (n i : Nat) : Tp := if n < i then ⟨n, o n, true⟩ else ⟨i, p0, false⟩
theorem upTo_step (o : Nat → P6) (n i : Nat) : (upTo o n i).step n (o i) = upTo o n (i + 1) := by
  unfold upTo
  by_cases h : n < i
  · rw [if_pos h, if_pos (by omega)]
    unfold Tp.step; rw [if_pos rfl]
  · rw [if_neg h]
    unfold Tp.step
    rw [if_neg (by simp)]
    by_cases h2 : n ≤ i
    · obtain rfl : n = i := by omega
      rw [if_pos (by exact Nat.le_refl _), if_pos (by omega)]
    · rw [if_neg h2, if_neg (by omega)]
theorem wrT_upTo (c : Cfg) (who seq : Int) (K : List (Int × Int)) (k n : Nat) : ∀ i, i ≤ k → wrT c who K n ⟨0, p0, false⟩ i = upTo (opAt c who seq K k) n i
  | 0, _ => by unfold upTo; rw [if_neg (by omega)]; rfl
  | i + 1, h => by
    have e : logOp c who K i = opAt c who seq K k i := by unfold opAt; rw [if_pos (by omega)]
    rw [wrT, wrT_upTo c who seq K k n i (by omega), e, upTo_step]
theorem wrote_upTo (c : Cfg) (who seq : Int) (K : List (Int × Int)) (k n : Nat) : wrote c who seq K k n ⟨0, p0, false⟩ = upTo (opAt c who seq K k) n (k + 2) := by
  have e1 : lenOp c who k = opAt c who seq K k k := by unfold opAt; rw [if_neg (by omega), if_pos rfl]
  have e2 : openOp c who seq = opAt c who seq K k (k + 1) := by unfold opAt; rw [if_neg (by omega), if_neg (by omega)]
  unfold wrote
  rw [wrT_upTo c who seq K k n k (Nat.le_refl _), e1, upTo_step, e2, upTo_step]
end Go.Tum.Sc
