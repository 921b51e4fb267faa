/- A slice of entries that came in, opened. -/
import Derived.Test.YtdhcaelhjpgliaaPuts
import Derived.Test.YtdhcaelhjpgliaaRowBase
import Derived.Deep.SlicePairs
namespace Go.Proofs.Ytdhcaelhjpgliaa
open Go.ChangeShapes Go.WideShapes Go.ChangeAt Go.RowKit Go.Deep Go.Tum Go.Tum.W

theorem cell_lt {w : World} {a : Addr} {v : Value} (h : w.cell? a = some v) : a.block < w.heap.size := by
  apply Classical.byContradiction
  intro hn
  have h2 : w.heap[a.block]? = none := Array.getElem?_eq_none (by omega)
  simp [World.cell?, h2] at h

theorem argRowW_of {H : Type} {enc : TypeId × Value → H} {W : World} {base : Nat} {spare : Nat → Bool} {held : Bool} {fuel : Nat} {a : Option Addr} {len cap : Nat} {x : DataW H × List MemPlace}
    (h : DataW.trod enc Try.prog W base spare held fuel 49 (Value.slice a len cap).cells.toList = some x) :
    ∃ l : List (Int × Int), (ArgRow W (.slice a len cap) l ∧ ∀ e ∈ l, (Lit.int .i64 e.1).wf = true ∧ (Lit.int .u64 e.2).wf = true) ∧ len = l.length ∧ l.length ≤ maxLen := by
  rcases open_slice_pairs Try.underlying49 Try.underlying51 (by kernel_rfl) rfl rfl (by kernel_rfl) (by kernel_rfl) h with ⟨hcs, _⟩ | ⟨b, l, c, m, n, V0, V1, D0, D1, P0, P1, hcs, _, hl, hm, hmm, _, hi⟩
  · simp [Value.cells] at hcs
    obtain ⟨rfl, rfl, rfl⟩ := hcs
    exact ⟨[], ⟨⟨_, _, rfl, .inl rfl⟩, by simp⟩, rfl, by simp⟩
  · simp [Value.cells] at hcs
    obtain ⟨rfl, rfl, rfl⟩ := hcs
    have hlm : len ≤ m := by rw [hmm]; split <;> omega
    have hwf : ∀ i, i < len → (Lit.int .i64 (intOf (V0 i))).wf = true ∧ (Lit.int .u64 (intOf (V1 i))).wf = true := by
      intro i hi2
      obtain ⟨h1, h2, h3, h4⟩ := hi i (by omega)
      obtain ⟨x, e1, _, k1⟩ := DataW.trod_int Try.underlying3 h3
      obtain ⟨y, e2, _, k2⟩ := DataW.trod_int Try.underlying30 h4
      simp only [List.cons.injEq, and_true] at e1 e2
      rw [e1, e2]
      exact ⟨k1, k2⟩
    have hall : ∀ i, i < len → W.cell? (b.add (i * 2)) = some (.int .i64 (intOf (V0 i))) ∧ W.cell? (b.add (i * 2 + 1)) = some (.int .u64 (intOf (V1 i))) := by
      intro i hi2
      obtain ⟨h1, h2, h3, h4⟩ := hi i (by omega)
      obtain ⟨x, e1, _, _⟩ := DataW.trod_int Try.underlying3 h3
      obtain ⟨y, e2, _, _⟩ := DataW.trod_int Try.underlying30 h4
      simp only [List.cons.injEq, and_true] at e1 e2
      rw [h1, h2, e1, e2]
      exact ⟨rfl, rfl⟩
    let l := (List.range len).map fun i => (intOf (V0 i), intOf (V1 i))
    have hlen : l.length = len := by simp [l]
    have hget : ∀ i (hi : i < l.length), l[i] = (intOf (V0 i), intOf (V1 i)) := by intro i hi; simp [l]
    refine ⟨l, ⟨⟨some b, cap, by rw [hlen], ?_⟩, fun e he => ?_⟩, hlen.symm, by omega⟩
    rotate_left
    · simp only [l, List.mem_map, List.mem_range] at he
      obtain ⟨i, hi3, rfl⟩ := he
      exact hwf i hi3
    by_cases h0 : len = 0
    · exact .inl (List.eq_nil_of_length_eq_zero (by omega))
    · refine .inr ⟨b, rfl, ?_, ?_⟩
      · have := cell_lt (hall 0 (by omega)).1
        simpa [Addr.add] using this
      · intro j u hj
        have hjl : j < l.length * 2 := by
          rw [← ents_length]
          exact (List.getElem?_eq_some_iff.1 hj).1
        rcases Nat.mod_two_eq_zero_or_one j with e | e
        · obtain ⟨i, rfl⟩ : ∃ i, j = i * 2 := ⟨j / 2, by omega⟩
          rw [(ents_get l i (by omega)).1, hget] at hj
          rw [(hall i (by omega)).1]
          exact hj
        · obtain ⟨i, rfl⟩ : ∃ i, j = i * 2 + 1 := ⟨j / 2, by omega⟩
          rw [(ents_get l i (by omega)).2, hget] at hj
          rw [(hall i (by omega)).2]
          exact hj
theorem argRow_of {H : Type} {enc : TypeId × Value → H} {W : World} {base : Nat} {spare : Nat → Bool} {held : Bool} {fuel : Nat} {a : Option Addr} {len cap : Nat} {x : DataW H × List MemPlace}
    (h : DataW.trod enc Try.prog W base spare held fuel 49 (Value.slice a len cap).cells.toList = some x) :
    ∃ l : List (Int × Int), ArgRow W (.slice a len cap) l ∧ len = l.length ∧ l.length ≤ maxLen := by
  obtain ⟨l, h1, h2, h3⟩ := argRowW_of h
  exact ⟨l, h1.1, h2, h3⟩
end Go.Proofs.Ytdhcaelhjpgliaa
