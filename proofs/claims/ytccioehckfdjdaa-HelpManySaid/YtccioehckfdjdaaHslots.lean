/- HelpSlots, plain: what was named and seen, and what the last reply told. -/
import Derived.Test.YtccioehckfdjdaaHinv
set_option linter.unusedSimpArgs false
set_option linter.unusedVariables false
namespace Go.Tum.H
open Go.Tum.Y Go.Tum.Sc
/-- What a watcher knows: which block was named, whether the transaction was seen to be being done since, what the last reply told. -/
structure Seen where
  named : Int
  seen : Bool
  lv : Int
  ls : Int
/-- What the watcher knows goes with the state. -/
structure Fits (c : Cfg) (seq : Int) (h : H) (z : Seen) : Prop where
  held : h.next = 8 ∨ h.held = -1 ∨ (h.held = z.named ∧ z.seen = true)
  word : h.next = 5 ∨ h.next = 6 → (whA c (nth h h.k.toNat).1).1 = 16 → (whA c (nth h h.k.toNat).1).2.1 = h.held
  named : h.next = 4 → z.named = (whA c (nth h h.k.toNat).1).2.1 ∧ h.held = -1
  last : h.next = 6 → h.cv = z.lv ∧ h.cs = z.ls ∧ z.ls < seq
/-- What the watcher knows behind a step that was asked for, and its reply. -/
def watch (c : Cfg) (owner seq : Int) (o : P6) (v s : Int) (z : Seen) : Seen :=
  if o.k = 1 then ⟨IntKind.i64.wrap (IntKind.i64.wrap o.nv - 1), false, v, s⟩
  else if (whA c o.a).1 = 4 ∧ (whA c o.a).2.1 = owner ∧ o.k = 0 then ⟨z.named, decide (v = 1 ∧ s = seq), v, s⟩
  else ⟨z.named, z.seen, v, s⟩
/-- What the law forbids. -/
def bad (c : Cfg) (who seq : Int) (o : P6) (z : Seen) : Prop :=
  (o.k = 1 ∧ ((whA c o.a).1 ≠ 3 ∨ (whA c o.a).2.1 ≠ who)) ∨ ((whA c o.a).1 = 16 ∧ ((whA c o.a).2.1 ≠ z.named ∨ z.seen = false)) ∨
  (o.k = 2 ∧ (whA c o.a).1 ≠ 4 ∧ (o.ov ≠ z.lv ∨ o.os ≠ z.ls ∨ seq ≤ z.ls ∨ o.ns ≠ seq))
theorem fits_entryG {c : Cfg} {seq : Int} {h : H} {z : Seen} (hh : h.held = -1 ∨ (h.held = z.named ∧ z.seen = true)) : ∀ g k, Fits c seq (entryG c h g k) z
  | 0, k => ⟨.inr hh, by simp [entryG], by simp [entryG], by simp [entryG]⟩
  | g + 1, k => by
    unfold entryG
    split
    · exact fits_entryG hh g (k + 1)
    · have e : nth { h with k := (k : Int), next := if (whA c (nth h k).1).1 = 16 ∧ (whA c (nth h k).1).2.1 ≠ h.held then 3 else 5 } (k : Int).toNat = nth h k := rfl
      refine ⟨.inr hh, ?_, ?_, ?_⟩
      · intro h1 h2
        dsimp only at h1 h2 ⊢
        rw [e] at h2 ⊢
        split at h1
        · omega
        · rename_i hx
          have hx := not_and.1 hx h2
          exact Classical.not_not.1 hx
      · intro h1
        dsimp only at h1
        split at h1 <;> omega
      · intro h1
        dsimp only at h1
        split at h1 <;> omega
theorem fits_entry {c : Cfg} {seq : Int} {h : H} {z : Seen} (hh : h.held = -1 ∨ (h.held = z.named ∧ z.seen = true)) (k : Nat) : Fits c seq (entry c h k) z := fits_entryG hh _ _
theorem fits_unl {c : Cfg} {seq : Int} {h : H} {z : Seen} (is : Bool) (hf : is = true → Fits c seq h z) : Fits c seq (unl is h) z := by
  cases is
  · exact ⟨.inl rfl, by simp [unl], by simp [unl], by simp [unl]⟩
  · exact hf rfl
theorem name_back {b : Int} (h0 : 0 ≤ b) (h1 : b ≤ 100000) : IntKind.i64.wrap (IntKind.i64.wrap (nameOf b) - 1) = b := by
  unfold nameOf
  rw [IntKind.wrap_u64, IntKind.wrap_u64, IntKind.wrap_i64, IntKind.wrap_i64]
  omega
theorem what_is {c : Cfg} (hok : Ok c) {kd i k : Int} (hi : Is c kd i k) : whA c (place c kd i k) = (kd, i, k) := Go.Proofs.Ytccioehckfdjdaa.whA_place hok hi
theorem slots_step {c : Cfg} (hok : Ok c) {who owner seq : Int} {h : H} {z : Seen} (hw : 0 ≤ who ∧ who < c.t) (ho : 0 ≤ owner ∧ owner < c.t) (hi : Inv c h) (hn : h.n ≤ cap c) (h8 : h.next ≠ 8) (hf : Fits c seq h z) (v s : Int) :
    ¬ bad c who seq (ask c who owner seq h).1 z ∧ Fits c seq (tell c seq v s h) (watch c owner seq (ask c who owner seq h).1 v s z) := by
  have ha := asks (seq := seq) hok hw ho hi hn h8
  obtain ⟨f1, f2, f3, f4⟩ := hf
  have f1 := f1.resolve_left h8
  generalize (ask c who owner seq h).1 = o at ha
  cases ha with
  | own kd i k hk hs hnx =>
    have e := what_is hok hs
    refine ⟨?_, ?_⟩
    · unfold bad
      dsimp only
      rw [e]
      dsimp only
      omega
    · unfold watch
      dsimp only
      rw [e]
      dsimp only
      rw [if_neg (show ¬ (0 : Int) = 1 by decide)]
      rcases hnx with ⟨hnx, rfl⟩ | ⟨hnx, rfl⟩ | ⟨hnx, rfl, rfl⟩
      · rw [if_neg (show ¬ ((5 : Int) = 4 ∧ i = owner ∧ (0 : Int) = 0) by omega)]
        unfold tell
        rw [if_pos hnx]
        refine ⟨.inr f1, ?_, ?_, ?_⟩
        all_goals (unfold read; dsimp only; split <;> simp)
      · rw [if_neg (show ¬ ((6 : Int) = 4 ∧ i = owner ∧ (0 : Int) = 0) by omega)]
        unfold tell
        rw [if_neg (show ¬ h.next = 0 by omega), if_pos hnx]
        refine ⟨.inr f1, ?_, ?_, ?_⟩
        all_goals (unfold read; dsimp only; split <;> simp)
      · rw [if_pos ⟨rfl, rfl, rfl⟩]
        unfold tell
        rcases hnx with hnx | hnx
        · rw [if_neg (show ¬ h.next = 0 by omega), if_neg (show ¬ h.next = 1 by omega), if_pos hnx]
          exact fits_unl _ fun ht => fits_entry (f1.imp id fun ⟨a, b⟩ => ⟨a, ht⟩) 0
        · rw [if_neg (show ¬ h.next = 0 by omega), if_neg (show ¬ h.next = 1 by omega), if_neg (show ¬ h.next = 2 by omega), if_neg (show ¬ h.next = 3 by omega), if_pos hnx]
          obtain ⟨g1, g2⟩ := f3 hnx
          exact fits_unl _ fun ht => ⟨.inr (.inr ⟨g1.symm, ht⟩), fun _ _ => rfl, by simp, by simp⟩
  | slot hnx hs =>
    have e := what_is hok hs
    have hb := Go.Proofs.Ytccioehckfdjdaa.whA_bd2 hok (nth h h.k.toNat).1
    refine ⟨?_, ?_⟩
    · unfold bad
      dsimp only
      rw [e]
      dsimp only
      omega
    · unfold watch tell
      dsimp only
      rw [if_pos rfl, if_neg (show ¬ h.next = 0 by omega), if_neg (show ¬ h.next = 1 by omega), if_neg (show ¬ h.next = 2 by omega), if_pos hnx, name_back hb.1 (by omega)]
      exact ⟨.inr (.inl rfl), by simp, fun _ => ⟨rfl, rfl⟩, by simp⟩
  | load hnx hk =>
    have hb := Go.Proofs.Ytccioehckfdjdaa.whA_bd hok (nth h h.k.toNat).1
    have hw2 := f2 (.inl hnx)
    refine ⟨?_, ?_⟩
    · unfold bad
      dsimp only
      rintro (⟨h1, _⟩ | ⟨h1, h2⟩ | ⟨h1, _⟩)
      · omega
      · have := hw2 h1
        rcases f1 with f1 | ⟨f1, f1'⟩
        · have hb2 := Go.Proofs.Ytccioehckfdjdaa.whA_bd2 hok (nth h h.k.toNat).1
          omega
        · rw [f1'] at h2
          rcases h2 with h2 | h2
          · exact h2 (by omega)
          · simp at h2
      · omega
    · unfold watch tell
      dsimp only
      rw [if_neg (show ¬ (0 : Int) = 1 by decide), if_neg (show ¬ ((whA c (nth h h.k.toNat).1).1 = 4 ∧ (whA c (nth h h.k.toNat).1).2.1 = owner ∧ (0 : Int) = 0) by omega), if_neg (show ¬ h.next = 0 by omega), if_neg (show ¬ h.next = 1 by omega), if_neg (show ¬ h.next = 2 by omega), if_neg (show ¬ h.next = 3 by omega), if_neg (show ¬ h.next = 4 by omega), if_pos hnx]
      by_cases hs : seq ≤ s
      · rw [if_pos hs]
        exact fits_entry (h := { h with cv := v, cs := s, next := 6 }) (z := ⟨z.named, z.seen, v, s⟩) f1 _
      · rw [if_neg hs]
        exact ⟨.inr f1, fun _ hx => hw2 hx, by simp, fun _ => ⟨rfl, rfl, by dsimp only; omega⟩⟩
  | swap hnx hk =>
    have hb := Go.Proofs.Ytccioehckfdjdaa.whA_bd hok (nth h h.k.toNat).1
    have hw2 := f2 (.inr hnx)
    obtain ⟨l1, l2, l3⟩ := f4 hnx
    refine ⟨?_, ?_⟩
    · unfold bad
      dsimp only
      rintro (⟨h1, _⟩ | ⟨h1, h2⟩ | ⟨h1, h2, h3⟩)
      · omega
      · have := hw2 h1
        rcases f1 with f1 | ⟨f1, f1'⟩
        · have hb2 := Go.Proofs.Ytccioehckfdjdaa.whA_bd2 hok (nth h h.k.toNat).1
          omega
        · rw [f1'] at h2
          rcases h2 with h2 | h2
          · exact h2 (by omega)
          · simp at h2
      · omega
    · unfold watch tell
      dsimp only
      rw [if_neg (show ¬ (2 : Int) = 1 by decide), if_neg (show ¬ ((whA c (nth h h.k.toNat).1).1 = 4 ∧ (whA c (nth h h.k.toNat).1).2.1 = owner ∧ (2 : Int) = 0) by omega), if_neg (show ¬ h.next = 0 by omega), if_neg (show ¬ h.next = 1 by omega), if_neg (show ¬ h.next = 2 by omega), if_neg (show ¬ h.next = 3 by omega), if_neg (show ¬ h.next = 4 by omega), if_neg (show ¬ h.next = 5 by omega), if_pos hnx]
      exact fits_entry (z := ⟨z.named, z.seen, v, s⟩) f1 _
  | shut hnx hs =>
    have e := what_is hok hs
    refine ⟨?_, ?_⟩
    · unfold bad
      dsimp only
      rw [e]
      dsimp only
      omega
    · unfold watch tell
      dsimp only
      rw [if_neg (show ¬ (2 : Int) = 1 by decide), if_neg (show ¬ ((whA c (place c 4 owner 0)).1 = 4 ∧ (whA c (place c 4 owner 0)).2.1 = owner ∧ (2 : Int) = 0) by omega), if_neg (show ¬ h.next = 0 by omega), if_neg (show ¬ h.next = 1 by omega), if_neg (show ¬ h.next = 2 by omega), if_neg (show ¬ h.next = 3 by omega), if_neg (show ¬ h.next = 4 by omega), if_neg (show ¬ h.next = 5 by omega), if_neg (show ¬ h.next = 6 by omega), if_pos hnx]
      exact ⟨.inl rfl, by simp, by simp, by simp⟩
/-- HelpSteps: what is asked for is as it may be. -/
theorem steps_step {c : Cfg} (hok : Ok c) {who owner seq : Int} {h : H} (hw : 0 ≤ who ∧ who < c.t) (ho : 0 ≤ owner ∧ owner < c.t) (hi : Inv c h) (hn : h.n ≤ cap c) (h8 : h.next ≠ 8) :
    let o := (ask c who owner seq h).1
    o.k ≠ 3 ∧ ¬ (o.k = 1 ∧ ((whA c o.a).1 ≠ 3 ∨ (whA c o.a).2.1 ≠ who)) ∧ ¬ (o.k = 2 ∧ (whA c o.a).1 < 7 ∧ ((whA c o.a).1 ≠ 4 ∨ (whA c o.a).2.1 ≠ owner)) ∧ (whA c o.a).1 ≠ -1 := by
  have ha := asks (seq := seq) hok hw ho hi hn h8
  intro o
  have ho' : (ask c who owner seq h).1 = o := rfl
  rw [ho'] at ha
  clear_value o
  cases ha with
  | own kd i k hk hs hnx =>
    have e := what_is hok hs
    dsimp only
    rw [e]
    dsimp only
    omega
  | slot hnx hs =>
    have e := what_is hok hs
    dsimp only
    rw [e]
    dsimp only
    omega
  | load hnx hk => dsimp only; omega
  | swap hnx hk => dsimp only; omega
  | shut hnx hs =>
    have e := what_is hok hs
    dsimp only
    rw [e]
    dsimp only
    omega
end Go.Tum.H
