/- A thread that does a transaction: what holds of its state whatever replies come; plain. -/
import Derived.Test.YtccioehckfdjdaaHplain
import Derived.Test.YtccioehckfdjdaaKind
set_option linter.unusedSimpArgs false
set_option linter.unusedVariables false
namespace Go.Tum.H
open Go.Tum.Y Go.Tum.Sc
/-- The entry that it is about is a cell's that transactions write. -/
structure Inv (c : Cfg) (h : H) : Prop where
  good : Good c h
  rng : 0 ≤ h.next ∧ h.next ≤ 8
  ent : h.next = 3 ∨ h.next = 4 ∨ h.next = 5 ∨ h.next = 6 → 7 ≤ (whA c (nth h h.k.toNat).1).1
  nil : h.next = 0 → h.list = []
theorem nth_eq {h h' : H} (e : h'.list = h.list) (k : Nat) : nth h' k = nth h k := by unfold nth; rw [e]
theorem entryG_inv {c : Cfg} {h : H} (hg : Good c h) : ∀ g k, g + k = h.list.length → Inv c (entryG c h g k)
  | 0, k, hk => ⟨(entryG_good hg 0 k hk).1, by simp [entryG], by simp [entryG], by simp [entryG]⟩
  | g + 1, k, hk => by
    have hgd := (entryG_good hg (g + 1) k hk).1
    unfold entryG at hgd ⊢
    split at hgd
    · rename_i h1
      rw [if_pos h1]
      exact entryG_inv hg g (k + 1) (by omega)
    · rename_i h1
      rw [if_neg h1]
      refine ⟨hgd, ?_, fun _ => ?_, ?_⟩
      · dsimp only; split <;> simp
      · have e : nth { h with k := (k : Int), next := if (whA c (nth h k).1).1 = 16 ∧ (whA c (nth h k).1).2.1 ≠ h.held then 3 else 5 } (k : Int).toNat = nth h k := rfl
        dsimp only at e ⊢
        rw [e]; omega
      · dsimp only; split <;> simp
theorem entry_inv {c : Cfg} {h : H} (hg : Good c h) (k : Nat) (hk : k ≤ h.list.length) : Inv c (entry c h k) := entryG_inv hg _ _ (by omega)
theorem unl_inv {c : Cfg} {h : H} (is : Bool) (hi : Inv c h) : Inv c (unl is h) := by
  unfold unl
  cases is
  · obtain ⟨⟨a1, a2, a3, a4, a5, a6⟩, b, e, n⟩ := hi
    exact ⟨⟨a1, a2, by simp, a4, a5, by simp⟩, by simp, by simp, by simp⟩
  · exact hi
/-- The step that comes. -/
theorem tell_inv {c : Cfg} (hok : Ok c) {seq : Int} {h : H} (hi : Inv c h) (v s : Int) (hv : 0 ≤ v) : Inv c (tell c seq v s h) := by
  have hc := cap_bd hok
  obtain ⟨hg, hr, he, hn⟩ := hi
  obtain ⟨a1, a2, a3, a4, a5, a6⟩ := id hg
  unfold tell
  by_cases h0 : h.next = 0
  · rw [if_pos h0]
    have hl := hn h0
    unfold read
    have hm : 0 ≤ min v (cap c) ∧ min v (cap c) ≤ cap c := by omega
    rw [hl]
    refine ⟨⟨hm.1, by dsimp only; omega, ?_, by simp [hl], a5, ?_⟩, ?_, ?_, ?_⟩
    · dsimp only; split <;> rename_i hx <;> simp at hx ⊢; omega
    · dsimp only; split <;> simp
    · dsimp only; split <;> simp
    · dsimp only; split <;> simp
    · dsimp only; split <;> simp
  rw [if_neg h0]
  by_cases h1 : h.next = 1
  · rw [if_pos h1]
    have hl := a3 h1
    unfold read
    refine ⟨⟨a1, a2, ?_, by simp; omega, a5, ?_⟩, ?_, ?_, ?_⟩
    · dsimp only; split <;> rename_i hx <;> simp at hx ⊢; omega
    · dsimp only; split <;> simp
    · dsimp only; split <;> simp
    · dsimp only; split <;> simp
    · dsimp only; split <;> simp
  rw [if_neg h1]
  by_cases h2 : h.next = 2
  · rw [if_pos h2]
    exact unl_inv _ (entry_inv hg 0 (Nat.zero_le _))
  rw [if_neg h2]
  by_cases h3 : h.next = 3
  · rw [if_pos h3]
    have hk := a6 (.inl h3)
    exact ⟨⟨a1, a2, by simp, a4, a5, fun _ => hk⟩, by simp, fun _ => he (.inl h3), by simp⟩
  rw [if_neg h3]
  by_cases h4 : h.next = 4
  · rw [if_pos h4]
    have hk := a6 (.inr (.inl h4))
    exact unl_inv _ ⟨⟨a1, a2, by simp, a4, a5, fun _ => hk⟩, by simp, fun _ => he (.inr (.inl h4)), by simp⟩
  rw [if_neg h4]
  by_cases h5 : h.next = 5
  · rw [if_pos h5]
    have hk := a6 (.inr (.inr (.inl h5)))
    have hg2 : Good c { h with cv := v, cs := s, next := 6 } := ⟨a1, a2, by simp, a4, a5, fun _ => hk⟩
    split
    · exact entry_inv hg2 _ (by dsimp only; omega)
    · exact ⟨hg2, by simp, fun _ => he (.inr (.inr (.inl h5))), by simp⟩
  rw [if_neg h5]
  by_cases h6 : h.next = 6
  · rw [if_pos h6]
    have hk := a6 (.inr (.inr (.inr h6)))
    exact entry_inv hg _ (by omega)
  rw [if_neg h6]
  by_cases h7 : h.next = 7
  · rw [if_pos h7]
    exact ⟨⟨a1, a2, by simp, a4, a5, by simp⟩, by simp, by simp, by simp⟩
  rw [if_neg h7]
  exact ⟨hg, hr, he, hn⟩
theorem ask_done {c : Cfg} {who owner seq : Int} {h : H} (hr : 0 ≤ h.next ∧ h.next ≤ 8) : (ask c who owner seq h).2 = !decide (h.next = 8) := by
  unfold ask
  repeat (first | (rw [if_pos (by assumption)]; simp; omega) | (split <;> rename_i hx; (simp; omega)) | (simp; omega))
/-- What is asked for: by where it stands. -/
inductive Asks (c : Cfg) (who owner seq : Int) (h : H) : P6 → Prop where
  | own (kd i k : Int) (hk : kd = 4 ∨ kd = 5 ∨ kd = 6) (hi : Is c kd i k) (hn : h.next = 0 ∧ kd = 5 ∨ h.next = 1 ∧ kd = 6 ∨ (h.next = 2 ∨ h.next = 4) ∧ kd = 4 ∧ i = owner) : Asks c who owner seq h ⟨0, place c kd i k, 0, 0, 0, 0⟩
  | slot (hn : h.next = 3) (hi : Is c 3 who 0) : Asks c who owner seq h ⟨1, place c 3 who 0, 0, 0, nameOf (whA c (nth h h.k.toNat).1).2.1, 0⟩
  | load (hn : h.next = 5) (hk : 7 ≤ (whA c (nth h h.k.toNat).1).1) : Asks c who owner seq h ⟨0, (nth h h.k.toNat).1, 0, 0, 0, 0⟩
  | swap (hn : h.next = 6) (hk : 7 ≤ (whA c (nth h h.k.toNat).1).1) : Asks c who owner seq h ⟨2, (nth h h.k.toNat).1, h.cv, h.cs, (nth h h.k.toNat).2, seq⟩
  | shut (hn : h.next = 7) (hi : Is c 4 owner 0) : Asks c who owner seq h ⟨2, place c 4 owner 0, 1, seq, 0, seq⟩
theorem is_own {c : Cfg} (h : Ok c) {u : Int} (hu : 0 ≤ u ∧ u < c.t) : Is c 3 u 0 ∧ Is c 4 u 0 ∧ Is c 5 u 0 := by
  refine ⟨⟨hu.1, by simpa [cnt] using hu.2, by decide, by simp [eachP, each]⟩, ⟨hu.1, by simpa [cnt] using hu.2, by decide, by simp [eachP, each]⟩, ⟨hu.1, by simpa [cnt] using hu.2, by decide, by simp [eachP, each]⟩⟩
theorem is_log {c : Cfg} (h : Ok c) {u k : Int} (hu : 0 ≤ u ∧ u < c.t) (hk : 0 ≤ k ∧ k < cap c) : Is c 6 u k :=
  ⟨hu.1, by simpa [cnt] using hu.2, hk.1, by simpa [eachP, each] using hk.2⟩
theorem at_is {c : Cfg} {kd i k : Int} (hi : Is c kd i k) : at_ c kd i k = place c kd i k := by unfold at_; rw [if_pos hi]
theorem asks {c : Cfg} (hok : Ok c) {who owner seq : Int} {h : H} (hw : 0 ≤ who ∧ who < c.t) (ho : 0 ≤ owner ∧ owner < c.t) (hi : Inv c h) (hn : h.n ≤ cap c) (h8 : h.next ≠ 8) : Asks c who owner seq h (ask c who owner seq h).1 := by
  obtain ⟨hg, hr, he, hnl⟩ := hi
  unfold ask
  by_cases h0 : h.next = 0
  · rw [if_pos h0, at_is (is_own hok ho).2.2]
    exact .own 5 owner 0 (by omega) (is_own hok ho).2.2 (by omega)
  rw [if_neg h0]
  by_cases h1 : h.next = 1
  · have hl := hg.2.2.1 h1
    have hil : Is c 6 owner h.list.length := is_log hok ho (by omega)
    rw [if_pos h1, at_is hil]
    exact .own 6 owner _ (by omega) hil (by omega)
  rw [if_neg h1]
  by_cases h2 : h.next = 2 ∨ h.next = 4
  · rw [if_pos h2, at_is (is_own hok ho).2.1]
    exact .own 4 owner 0 (by omega) (is_own hok ho).2.1 (by omega)
  rw [if_neg h2]
  by_cases h3 : h.next = 3
  · rw [if_pos h3, at_is (is_own hok hw).1]
    exact .slot h3 (is_own hok hw).1
  rw [if_neg h3]
  by_cases h5 : h.next = 5
  · rw [if_pos h5]
    exact .load h5 (he (by omega))
  rw [if_neg h5]
  by_cases h6 : h.next = 6
  · rw [if_pos h6]
    exact .swap h6 (he (by omega))
  rw [if_neg h6]
  have h7 : h.next = 7 := by omega
  rw [if_pos h7, at_is (is_own hok ho).2.1]
  exact .shut h7 (is_own hok ho).2.1
/-! ### how many steps are left -/
def left (h : H) : Int :=
  if h.next = 1 then 5 * h.n - h.list.length + 2 else if h.next = 2 then 4 * h.list.length + 2
  else if h.next = 3 then 4 * (h.list.length - h.k) + 1 else if h.next = 4 then 4 * (h.list.length - h.k) else if h.next = 5 then 4 * (h.list.length - h.k) - 1 else if h.next = 6 then 4 * (h.list.length - h.k) - 2
  else if h.next = 7 then 1 else 0
theorem entryG_left (c : Cfg) (h : H) : ∀ g k, g + k = h.list.length → left (entryG c h g k) ≤ 4 * g + 1
  | 0, k, hk => by simp [entryG, left]
  | g + 1, k, hk => by
    unfold entryG
    split
    · have := entryG_left c h g (k + 1) (by omega)
      omega
    · split <;> (simp [left]; omega)
theorem entry_left (c : Cfg) (h : H) (k : Nat) (hk : k ≤ h.list.length) : left (entry c h k) ≤ 4 * (h.list.length - k) + 1 := by
  have := entryG_left c h (h.list.length - k) k (by omega)
  unfold entry; omega
theorem left_pos {c : Cfg} {h : H} (hi : Inv c h) (hl : (h.list.length : Int) ≤ h.n) (h8 : h.next ≠ 8) (h0 : h.next ≠ 0) : 1 ≤ left h := by
  obtain ⟨hg, hr, he, hnl⟩ := hi
  obtain ⟨a1, a2, a3, a4, a5, a6⟩ := hg
  unfold left
  repeat (first | (split <;> rename_i hx) | omega)
theorem unl_left (is : Bool) (h : H) (hp : 0 ≤ left h) : left (unl is h) ≤ left h := by
  unfold unl
  cases is
  · simpa [left] using hp
  · simp
theorem entryG_keeps (c : Cfg) (h : H) : ∀ g k, (entryG c h g k).list = h.list ∧ (entryG c h g k).n = h.n ∧ (entryG c h g k).held = h.held ∧ (entryG c h g k).cv = h.cv ∧ (entryG c h g k).cs = h.cs
  | 0, k => ⟨rfl, rfl, rfl, rfl, rfl⟩
  | g + 1, k => by
    unfold entryG
    split
    · exact entryG_keeps c h g (k + 1)
    · exact ⟨rfl, rfl, rfl, rfl, rfl⟩
theorem entry_keeps (c : Cfg) (h : H) (k : Nat) : (entry c h k).list = h.list ∧ (entry c h k).n = h.n ∧ (entry c h k).held = h.held ∧ (entry c h k).cv = h.cv ∧ (entry c h k).cs = h.cs := entryG_keeps c h _ _
theorem unl_keeps (is : Bool) (h : H) : (unl is h).list = h.list ∧ (unl is h).n = h.n ∧ (unl is h).held = h.held ∧ (unl is h).cv = h.cv ∧ (unl is h).cs = h.cs := by
  unfold unl; cases is <;> exact ⟨rfl, rfl, rfl, rfl, rfl⟩
theorem left_nn {c : Cfg} {h : H} (hi : Inv c h) (hl : (h.list.length : Int) ≤ h.n) : 0 ≤ left h := by
  by_cases h8 : h.next = 8
  · simp [left, h8]
  by_cases h0 : h.next = 0
  · simp [left, h0]
  have := left_pos hi hl h8 h0
  omega
theorem tell_left {c : Cfg} (hok : Ok c) {seq : Int} {h : H} (hi : Inv c h) (hl : (h.list.length : Int) ≤ h.n) (v s : Int) (h0 : h.next ≠ 0) (h8 : h.next ≠ 8) :
    left (tell c seq v s h) < left h ∧ ((tell c seq v s h).list.length : Int) ≤ (tell c seq v s h).n ∧ (tell c seq v s h).n = h.n ∧ (tell c seq v s h).next ≠ 0 := by
  obtain ⟨hg, hr, he, hn⟩ := id hi
  obtain ⟨a1, a2, a3, a4, a5, a6⟩ := id hg
  have hnx : ∀ k, k ≤ h.list.length → (entry c h k).next ≠ 0 := fun k hk => by
    have := entry_inv hg k hk
    intro e
    have e2 := this.nil e
    rw [(entry_keeps c h k).1] at e2
    have h1 : ∀ g k, (entryG c h g k).next ≠ 0 := fun g => by
      induction g with
      | zero => intro k; simp [entryG]
      | succ g ih => intro k; unfold entryG; split; exact ih _; dsimp only; split <;> decide
    exact h1 _ _ e
  unfold tell
  rw [if_neg h0]
  by_cases h1 : h.next = 1
  · rw [if_pos h1]
    have hl := a3 h1
    unfold read
    refine ⟨?_, by simp; omega, rfl, by dsimp only; split <;> decide⟩
    unfold left
    rw [if_pos h1]
    dsimp only
    split
    · simp; omega
    · simp; omega
  rw [if_neg h1]
  by_cases h2 : h.next = 2
  · rw [if_pos h2]
    have h3 := entry_left c h 0 (Nat.zero_le _)
    have h4 := entry_keeps c h 0
    have h5 := left_nn (entry_inv hg 0 (Nat.zero_le _)) (by rw [h4.1, h4.2.1]; exact hl)
    have h6 := unl_left (decide (v = 1 ∧ s = seq)) (entry c h 0) h5
    have h7 := unl_keeps (decide (v = 1 ∧ s = seq)) (entry c h 0)
    refine ⟨?_, by rw [h7.1, h7.2.1, h4.1, h4.2.1]; exact hl, by rw [h7.2.1, h4.2.1], ?_⟩
    · have e : left h = 4 * h.list.length + 2 := by unfold left; rw [if_neg h1, if_pos h2]
      omega
    · unfold unl; split
      · exact hnx 0 (Nat.zero_le _)
      · simp
  rw [if_neg h2]
  by_cases h3 : h.next = 3
  · rw [if_pos h3]
    have hk := a6 (.inl h3)
    refine ⟨?_, hl, rfl, by simp⟩
    simp [left, h3] <;> omega
  rw [if_neg h3]
  by_cases h4 : h.next = 4
  · rw [if_pos h4]
    have hk := a6 (.inr (.inl h4))
    generalize decide (v = 1 ∧ s = seq) = is
    cases is
    · refine ⟨?_, hl, rfl, by simp [unl]⟩
      simp [left, h4, unl] <;> omega
    · refine ⟨?_, hl, rfl, by simp [unl]⟩
      simp [left, h4, unl] <;> omega
  rw [if_neg h4]
  by_cases h5 : h.next = 5
  · rw [if_pos h5]
    have hk := a6 (.inr (.inr (.inl h5)))
    split
    · have h6 := entry_left c { h with cv := v, cs := s, next := 6 } (h.k.toNat + 1) (by dsimp only; omega)
      have h7 := entry_keeps c { h with cv := v, cs := s, next := 6 } (h.k.toNat + 1)
      refine ⟨?_, by rw [h7.1, h7.2.1]; exact hl, h7.2.1, ?_⟩
      · have e : left h = 4 * (h.list.length - h.k) - 1 := by simp [left, h5]
        dsimp only at h6; omega
      · intro e
        have h1 : ∀ g k, (entryG c { h with cv := v, cs := s, next := 6 } g k).next ≠ 0 := fun g => by
          induction g with
          | zero => intro k; simp [entryG]
          | succ g ih => intro k; unfold entryG; split; exact ih _; dsimp only; split <;> decide
        exact h1 _ _ e
    · refine ⟨?_, hl, rfl, by simp⟩
      simp [left, h5] <;> omega
  rw [if_neg h5]
  have h67 : h.next = 6 ∨ h.next = 7 := by omega
  rcases h67 with h6 | h7
  · rw [if_pos h6]
    have hk := a6 (.inr (.inr (.inr h6)))
    have h7 := entry_left c h (h.k.toNat + 1) (by omega)
    have h8 := entry_keeps c h (h.k.toNat + 1)
    refine ⟨?_, by rw [h8.1, h8.2.1]; exact hl, h8.2.1, hnx _ (by omega)⟩
    have e : left h = 4 * (h.list.length - h.k) - 2 := by simp [left, h6]
    omega
  · rw [if_neg (by omega), if_pos h7]
    refine ⟨?_, hl, rfl, by simp⟩
    simp [left, h7]
end Go.Tum.H
