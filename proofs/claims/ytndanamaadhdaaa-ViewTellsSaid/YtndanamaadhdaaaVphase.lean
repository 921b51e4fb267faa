/- A reading over replies that are no later: plain. -/
import Derived.Test.YtndanamaadhdaaaVrun
set_option linter.unusedSimpArgs false
set_option linter.unusedVariables false
namespace Go.Tum.Vw
open Go.Tum.Y
/-- How many steps are left at most. -/
def rank (v : V) : Nat := if v.step = 1 then 3 else if v.step = 2 then 2 else if v.step = 3 then 1 else 0
/-- Where a reading of a kind stands: has a reply been told, and which. -/
structure Ph (kind : Int) (v : V) (told : Bool) (last : Int) : Prop where
  rng : 0 ≤ v.step ∧ v.step ≤ 3
  fin : v.step = 0 → (v.s = 1 ∧ (kind = 2 ∨ (told = true ∧ v.val = last))) ∨ (v.s = 3 ∧ v.val = 0)
  on : v.step ≠ 0 → v.s = 0
  ear : v.step = 1 ∨ v.step = 2 → v.val = 0 ∧ (v.at_ = -1 → kind = 2)
theorem Ph.tell {kind : Int} {v : V} {told : Bool} {last : Int} (h : Ph kind v told last) (h0 : v.step ≠ 0) (seq x : Int) : Ph kind (Vw.tell seq x seq v) true x ∧ rank (Vw.tell seq x seq v) < rank v := by
  obtain ⟨held, step, block, a, val, s⟩ := v
  obtain ⟨r, f, o, e⟩ := h
  dsimp only at *
  rcases (show step = 1 ∨ step = 2 ∨ step = 3 by omega) with rfl | rfl | rfl
  · have e := e (.inl rfl)
    refine ⟨⟨?_, ?_, ?_, ?_⟩, ?_⟩ <;> simp [Vw.tell, rank]
    · exact o (by decide)
    · exact e
  · have e := e (.inr rfl)
    by_cases hx : x = 1
    · by_cases ha : a = -1
      · refine ⟨⟨?_, ?_, ?_, ?_⟩, ?_⟩ <;> simp [Vw.tell, loaded, lives, hx, ha, rank]
        exact .inl (e.2 ha)
      · refine ⟨⟨?_, ?_, ?_, ?_⟩, ?_⟩ <;> simp [Vw.tell, loaded, lives, hx, ha, rank]
        exact o (by decide)
    · refine ⟨⟨?_, ?_, ?_, ?_⟩, ?_⟩ <;> simp [Vw.tell, loaded, lives, hx, rank]
      exact e.1
  · refine ⟨⟨?_, ?_, ?_, ?_⟩, ?_⟩ <;> simp [Vw.tell, loaded, rank]
theorem ph_touch (kind block a : Int) (v : V) (hs : v.s = 0) (hv : v.val = 0) (ha : a = -1 → kind = 2) : Ph kind (touch block a v) false 0 := by
  obtain ⟨held, step, block', a', val, s⟩ := v
  dsimp only at hs hv
  subst hs; subst hv
  unfold touch lives
  dsimp only
  by_cases h1 : held = block <;> by_cases h2 : a = -1
  all_goals (refine ⟨?_, ?_, ?_, ?_⟩ <;> simp [h1, h2] <;> exact ha h2)
theorem ph_beg {c : Cfg} (kind a block : Int) (v : V) (h : v.s ≠ 2) : Ph kind (beg c kind a block v) false 0 := by
  have hb : ∀ ok, bgn ok v = ({ v with val := 0, step := 0, s := if ok then 0 else 3 }, ok) := fun ok => by unfold bgn; rw [if_neg h]
  have hc : ∀ p, Ph kind (cell c p v) false 0 := by
    intro p
    unfold cell
    rw [hb]
    cases inner c p <;> (refine ⟨?_, ?_, ?_, ?_⟩ <;> simp)
  unfold beg
  by_cases h0 : kind = 0
  · rw [if_pos h0]; exact hc _
  · rw [if_neg h0]
    by_cases h1 : kind = 1
    · rw [if_pos h1]
      unfold word
      rw [hb]
      by_cases ha : Y.at_ c 16 block a = -1
      · rw [show decide (Y.at_ c 16 block a ≠ -1) = false by simp [ha]]
        refine ⟨?_, ?_, ?_, ?_⟩ <;> simp
      · rw [show decide (Y.at_ c 16 block a ≠ -1) = true by simp [ha]]
        exact ph_touch kind block _ _ rfl rfl (fun e => absurd e ha)
    · rw [if_neg h1]
      by_cases h2 : kind = 2
      · rw [if_pos h2]
        unfold live
        rw [hb]
        by_cases ha : Y.at_ c 11 block 0 = -1
        · rw [show decide (Y.at_ c 11 block 0 ≠ -1) = false by simp [ha]]
          refine ⟨?_, ?_, ?_, ?_⟩ <;> simp
        · rw [show decide (Y.at_ c 11 block 0 ≠ -1) = true by simp [ha]]
          exact ph_touch kind block _ _ rfl rfl (fun _ => h2)
      · rw [if_neg h2]; exact hc _
end Go.Tum.Vw
