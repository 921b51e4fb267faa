/- A thread that comes when a transaction is not being done any more; plain. -/
import Derived.Test.YtccioehckfdjdaaHright
set_option linter.unusedSimpArgs false
set_option linter.unusedVariables false
namespace Go.Tum.H
open Go.Tum.Y Go.Tum.Sc Go.Tum.C Go.Proofs.Ytccioehckfdjdaa
def lms (L : List (Int × Int)) (h : H) : Int :=
  if h.next = 0 then L.length + 3 else if h.next = 1 then L.length - h.list.length + 2 else if h.next = 2 ∨ h.next = 4 ∨ h.next = 7 then 1 else if h.next = 3 then 2 else if h.next = 5 ∨ h.next = 6 then L.length - h.k + 2 else 0
section
variable {c : Cfg} {owner seq : Int} {L : List (Int × Int)} {B m : M} {h : H}
theorem TOk.lnn (ht : TOk c owner seq L B m h) : 0 ≤ lms L h ∧ lms L h ≤ L.length + 3 := by
  obtain ⟨⟨hg, hr, he, hn⟩, t2, t4, t5, _⟩ := ht
  obtain ⟨a1, a2, a3, a4, a5, a6⟩ := hg
  unfold lms
  by_cases h1 : h.next = 1
  · rw [if_neg (by omega), if_pos h1]
    have := a3 h1; have := (t4 h1).1; omega
  by_cases h2 : 2 ≤ h.next
  · have := t5 h2
    rw [this] at a6
    repeat (first | (split <;> rename_i hx) | omega)
  · repeat (first | (split <;> rename_i hx) | omega)
theorem TOk.lpos (ht : TOk c owner seq L B m h) (h8 : h.next ≠ 8) : 1 ≤ lms L h := by
  obtain ⟨⟨hg, hr, he, hn⟩, t2, t4, t5, _⟩ := ht
  obtain ⟨a1, a2, a3, a4, a5, a6⟩ := hg
  unfold lms
  by_cases h1 : h.next = 1
  · rw [if_neg (by omega), if_pos h1]
    have := a3 h1; have := (t4 h1).1; omega
  by_cases h2 : 2 ≤ h.next
  · have := t5 h2
    rw [this] at a6
    repeat (first | (split <;> rename_i hx) | omega)
  · repeat (first | (split <;> rename_i hx) | omega)
theorem lms_entry (J : Job c owner seq L B) (h : H) (hl : h.list = L) (k : Nat) (hk : k ≤ L.length) : lms L (entry c h k) ≤ if k < L.length then (L.length : Int) - k + 2 else 1 := by
  rw [entry_all (by rw [hl]; exact J.kind) k (by rw [hl]; exact hk), hl]
  by_cases hkl : k < L.length
  · rw [if_pos hkl, if_pos hkl]
    by_cases hx : (whA c (nth h k).1).1 = 16 ∧ (whA c (nth h k).1).2.1 ≠ h.held
    · rw [if_pos hx]; simp [lms]; omega
    · rw [if_neg hx]; simp [lms]
  · rw [if_neg hkl, if_neg hkl]
    simp [lms]
theorem late_down (J : Job c owner seq L B) (hm : MOk c owner seq L B m) (ho : rd m (place c 4 owner 0) = (0, seq)) {who : Int} (ht : TOk c owner seq L B m h) (h8 : h.next ≠ 8) (v s : Int) (hv : (v, s) = rd m (ask c who owner seq h).1.a) :
    lms L (tell c seq v s h) < lms L h := by
  have hok := J.ok
  have hcap := cap_bd hok
  have hLen := J.len
  have i4 := (is_own hok J.own).2.1
  have i5 := (is_own hok J.own).2.2
  have lnn := ht.lnn
  obtain ⟨⟨hg, hrg, hent, hnil⟩, t2, t4, t5, t6, t7, t8, t9⟩ := id ht
  obtain ⟨a1, a2, a3, a4, a5, a6⟩ := id hg
  have hall : ∀ e ∈ L, (rd m e.1).2 = seq := by
    rcases hm.opn with h1 | h1
    · rw [h1] at ho; simp at ho
    · exact h1.2
  unfold H.tell
  unfold ask at hv
  by_cases h0 : h.next = 0
  · rw [if_pos h0] at hv ⊢
    have hl := hnil h0
    have : lms L h = L.length + 3 := by unfold lms; rw [if_pos h0]
    rw [this]
    unfold read lms
    rw [hl]
    dsimp only
    split <;> (simp <;> omega)
  rw [if_neg h0] at hv ⊢
  by_cases h1 : h.next = 1
  · rw [if_pos h1] at hv ⊢
    have hl := a3 h1
    have hn1 := (t4 h1).1
    have : lms L h = L.length - h.list.length + 2 := by unfold lms; rw [if_neg h0, if_pos h1]
    rw [this]
    unfold read lms
    dsimp only
    split <;> (simp <;> omega)
  rw [if_neg h1] at hv ⊢
  have hlL := t5 (by omega)
  by_cases h2 : h.next = 2
  · rw [if_pos (.inl h2), at_is i4] at hv
    dsimp only at hv
    rw [ho] at hv
    simp only [Prod.mk.injEq] at hv
    rw [if_pos h2]
    have e : decide (v = 1 ∧ s = seq) = false := by simp [hv.1]
    rw [e]
    have : lms L h = 1 := by unfold lms; rw [if_neg h0, if_neg h1, if_pos (.inl h2)]
    rw [this]
    simp [unl, lms]
  rw [if_neg h2]
  by_cases h3 : h.next = 3
  · rw [if_pos h3]
    simp [lms, h3]
  rw [if_neg h3]
  by_cases h4 : h.next = 4
  · rw [if_pos (.inr h4), at_is i4] at hv
    dsimp only at hv
    rw [ho] at hv
    simp only [Prod.mk.injEq] at hv
    rw [if_pos h4]
    have e : decide (v = 1 ∧ s = seq) = false := by simp [hv.1]
    rw [e]
    simp [unl, lms, h4]
  rw [if_neg h4]
  rw [if_neg (by omega), if_neg h3] at hv
  by_cases h5 : h.next = 5
  · rw [if_pos h5] at hv ⊢
    have hk := a6 (.inr (.inr (.inl h5)))
    have hmem : nth h h.k.toNat ∈ L := by rw [← hlL]; exact nth_mem (by omega)
    have hs := hall _ hmem
    dsimp only at hv
    rw [← hv] at hs
    dsimp only at hs
    rw [if_pos (by omega)]
    have := lms_entry J { h with cv := v, cs := s, next := 6 } hlL (h.k.toNat + 1) (by rw [← hlL]; omega)
    have e : lms L h = L.length - h.k + 2 := by simp [lms, h5]
    rw [hlL] at hk
    split at this <;> omega
  rw [if_neg h5]
  have h67 : h.next = 6 ∨ h.next = 7 := by omega
  rcases h67 with h6 | h7
  · rw [if_pos h6]
    have hk := a6 (.inr (.inr (.inr h6)))
    have := lms_entry J h hlL (h.k.toNat + 1) (by rw [← hlL]; omega)
    have e : lms L h = L.length - h.k + 2 := by simp [lms, h6]
    rw [hlL] at hk
    split at this <;> omega
  · rw [if_neg (by omega), if_pos h7]
    simp [lms, h7]
theorem told_rd {who : Int} {o : Op6} (he : err m.cells.length who o = 0) : ((m.told who o).v, (m.told who o).s) = rd m o.a := by rw [told_is he]; rfl
theorem step_trace1 {who : Int} {o : Op6} (he : err m.cells.length who o = 0) : (m.step who o).trace.length = m.trace.length + 1 := by unfold M.step; rw [if_pos he]; simp
end
end Go.Tum.H
