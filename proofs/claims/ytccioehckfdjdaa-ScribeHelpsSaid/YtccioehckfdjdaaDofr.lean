/- What a step of the shared memory leaves as it was: the blocks that it may turn, named ahead. -/
import Derived.Test.YtccioehckfdjdaaCdo
set_option linter.unusedSimpArgs false
set_option linter.unusedVariables false
namespace Go.Tum
open Go.RowKit
/-- All that there was in a world, but some blocks. -/
def restT (w1 : World) (F : List Nat) : Thing where
  P w fp := fp = (List.range w1.heap.size).filter (fun k => decide (k ∉ F)) ∧ w1.heap.size ≤ w.heap.size ∧ ∀ k, k < w1.heap.size → k ∉ F → w.heap[k]? = w1.heap[k]?
  fr := by
    rintro w w' fp fp' ⟨rfl, h1, h2⟩ f hn
    refine ⟨rfl, Nat.le_trans h1 f.size, fun k hk hF => ?_⟩
    rw [f.block k (by omega) (hn k (by simp [hk, hF])), h2 k hk hF]
  lt := by
    rintro w fp ⟨rfl, h1, h2⟩ k hk
    simp at hk; omega
/-- A contract for one thing says which blocks may turn: its own. -/
theorem call_frame {T T' : Thing} {w : World} {F : List Nat} (hT : T.P w F) {P : Program} {f : Nat} {args : Array Value} {A : Ending → Prop}
    (hc : ∀ w0 R, Sep w0 w (T :: R) → Calls P f args w fun e w' => A e ∧ Sep w0 w' (T' :: R)) : Calls P f args w fun e w' => A e ∧ Fr F w w' ∧ ∃ F', T'.P w' F' ∧ ∀ k ∈ F', k ∈ F ∨ w.heap.size ≤ k := by
  have h0 : Sep { w with heap := #[] } w [T, restT w F] := by
    refine ⟨⟨rfl, rfl, rfl, Nat.zero_le _, fun k hk => by simp at hk⟩, fun i => match i with | 0 => F | _ => (List.range w.heap.size).filter (fun k => decide (k ∉ F)), fun i Ti hi => ?_, fun i j hi hj hij q hq => ?_⟩
    · match i, hi with
      | 0, hi =>
        obtain rfl : T = Ti := by simpa using hi
        exact ⟨hT, fun k _ => Nat.zero_le _⟩
      | 1, hi =>
        obtain rfl : restT w F = Ti := by simpa using hi
        exact ⟨⟨rfl, Nat.le_refl _, fun _ _ _ => rfl⟩, fun k _ => Nat.zero_le _⟩
      | i + 2, hi => simp at hi
    · match i, j, hi, hj with
      | 0, 0, _, _ => omega
      | 0, 1, _, _ => intro hm; simp at hm; exact hm.2 hq
      | 1, 0, _, _ => intro hm; simp at hq; exact hq.2 hm
      | 1, 1, _, _ => omega
      | i + 2, _, hi, _ => exact absurd hi (by simp only [List.length_cons, List.length_nil]; omega)
      | _, j + 2, _, hj => exact absurd hj (by simp only [List.length_cons, List.length_nil]; omega)
  refine (hc _ _ h0).mono fun e w' ⟨ha, hS⟩ => ⟨ha, ?_⟩
  obtain ⟨f0, G, hG, hd⟩ := hS
  obtain ⟨⟨e1, h1, h2⟩, _⟩ := hG 1 _ rfl
  refine ⟨⟨f0.os, f0.tape, f0.output, h1, fun k hk hn => h2 k hk hn⟩, G 0, (hG 0 _ rfl).1, fun k hk => ?_⟩
  have := hd 0 1 (by simp) (by simp) (by decide) k hk
  rw [e1] at this
  by_cases hkF : k ∈ F
  · exact .inl hkF
  · right
    simp only [List.mem_filter, List.mem_range, decide_eq_true_eq, not_and, Classical.not_not] at this
    by_cases hkw : k < w.heap.size
    · exact absurd (this hkw) hkF
    · omega
end Go.Tum
namespace Go.Proofs.Ytccioehckfdjdaa
open Go.RowKit Go.Tum Go.Tum.C
theorem memT_uniq {w : World} {b : Nat} {m : M} {F G : List Nat} (h : (memT b m).P w F) (k : (memT b m).P w G) : F = G := by
  obtain ⟨_, vc, vt, rfl, h⟩ := h
  obtain ⟨_, vc', vt', rfl, k⟩ := k
  have e1 := h.c0.symm.trans k.c0
  have e2 := h.c9.symm.trans k.c9
  injection e1 with e1
  injection e2 with e2
  rw [e1, e2]
theorem mem_notin {w0 w : World} {Ts : List Thing} (h : Sep w0 w Ts) {i j : Nat} (hij : i ≠ j) {b : Nat} {m : M} (hi : Ts[i]? = some (memT b m)) {k : Nat} {T : TypeId} {cs : List Value} (hj : Ts[j]? = some (blkT k T cs)) {F : List Nat} (hF : (memT b m).P w F) : k ∉ F := by
  obtain ⟨_, G, hG, hd⟩ := h
  have e := memT_uniq hF (hG i _ hi).1
  have e2 := (hG j _ hj).1.1
  intro hk
  rw [e] at hk
  exact hd i j (List.getElem?_eq_some_iff.1 hi).1 (List.getElem?_eq_some_iff.1 hj).1 hij k hk (by rw [e2]; simp)
theorem mem_fp {w0 w : World} {Ts : List Thing} (h : Sep w0 w Ts) {i : Nat} {b : Nat} {m : M} (hi : Ts[i]? = some (memT b m)) : ∃ F, (memT b m).P w F := by
  obtain ⟨fp, hp, _⟩ := h.get i hi
  exact ⟨fp, hp⟩
theorem mem_fp_fr {w w' : World} {b : Nat} {m : M} {F : List Nat} (h : (memT b m).P w F) (f : Fr [] w w') : (memT b m).P w' F := (memT b m).fr h f (by simp)
/-- A step, and what it leaves. -/
theorem mdo_frame {w0 w : World} {Ts : List Thing} (h : Sep w0 w Ts) (i : Nat) {b : Nat} {m : M} (hi : Ts[i]? = some (memT b m)) {F : List Nat} (hF : (memT b m).P w F) (ht : m.trace.length ≤ 100000) (who : Int) (op : Op6) :
    Calls Try.prog 71 #[.pointer (some ⟨b, 0, none⟩), .int .i64 who, opVm op] w fun e w' => e = .returned (.tuple #[outVm (m.told who op), .int .i64 (err m.cells.length who op)]) ∧ Sep w0 w' (Ts.set i (memT b (m.step who op))) ∧ Fr F w w' := by
  obtain ⟨fp, hp, _, hk⟩ := h.get i hi
  obtain rfl := memT_uniq hF hp
  refine (call_frame hF (fun w0 R hS => mdo_any hS ht who op)).mono fun e w' ⟨he, hf, F', h1, h2⟩ => ⟨he, hk _ w' F' h1 hf h2, hf⟩
end Go.Proofs.Ytccioehckfdjdaa
