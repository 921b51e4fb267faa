/- Proved: for every input CellSwaps answers true and leaves its arguments as they were; no condition. -/
import Derived.Test.YtbgmcekbldponaaCswaps
import Derived.Test.YtbgmcekbldponaaRowBase
import Derived.Test.YtbgmcekbldponaaLeaf
namespace Go.Proofs.Ytbgmcekbldponaa
open Go.ChangeShapes Go.WideShapes Go.ChangeAt Go.RowKit Go.Deep Go.Tum

set_option maxRecDepth 100000 in
theorem cellSwaps_lifted (os : Os) (started : os.Started) (H : Type) (enc : TypeId × Value → H) :
    ReturnsInHanded {} Try.checked os 4 .any (Rows.cellSwapsSpec.pre6 enc Try.prog Try.f4 Rows.cellSwapsRow.domain false) (Rows.cellSwapsSpec.post enc Try.prog Try.f4 false true false false) := by
  refine returnsInHanded_of_change (C := Try.checked) own started (by kernel_rfl) Try.func4
    (ChangeSpec.witness6 (enc := enc) (C := Try.checked) false ⟨#[], #[.agg #[.int .u64 0, .int .u64 0], .agg #[.int .u64 0, .int .u64 0], .agg #[.int .u64 0, .int .u64 0], .agg #[.int .u64 0, .int .u64 0]], []⟩ 8 (by kernel_rfl) (by kernel_rfl) (by kernel_rfl) (by kernel_rfl)) ?_
  intro W base args ds gs before hval0 hW _ _
  have hval : ∀ (j : Nat) t v, Try.f4.params[j]? = some t → args[j]? = some v → Value.okWide Try.prog W .any base t v := hval0
  have hW' := hW
  obtain ⟨p, q, hA0, hV, rfl, _, _⟩ := hW
  have hA : DataW.TrodAll enc Try.prog W 0 (fun _ => true) true Try.f4.params.toList args.toList ds p := hA0
  rw [Try.params4] at hA hval
  obtain ⟨v0, vs0, d0, ds0, p0, q0, hargs, rfl, rfl, h0, r0⟩ := trodAll_cons hA
  obtain ⟨v1, vs1, d1, ds1, p1, q1, rfl, rfl, rfl, h1, r1⟩ := trodAll_cons r0
  obtain ⟨v2, vs2, d2, ds2, p2, q2, rfl, rfl, rfl, h2, r2⟩ := trodAll_cons r1
  obtain ⟨v3, vs3, d3, ds3, p3, q3, rfl, rfl, rfl, h3, r3⟩ := trodAll_cons r2
  obtain ⟨rfl, rfl, rfl⟩ := trodAll_nil r3
  obtain rfl : args = #[v0, v1, v2, v3] := by cases args; simp_all
  obtain ⟨rfl, rfl⟩ := trodVars_none hV
  obtain ⟨cs0, rfl, sz0⟩ := okWide_struct Try.underlying35 (hval 0 35 v0 rfl rfl)
  have k0 := h0
  have lt0 : ∀ x ∈ p0, x.block < W.heap.size := by obtain ⟨m, hm⟩ := k0; exact DataW.trod_lt m _ _ _ hm
  obtain ⟨_, hf0⟩ := h0
  have hl0 := trod_leafs 5 35 [.int .u64, .int .u64] _ _ _ (by kernel_rfl) (by kernel_rfl) hf0
  obtain ⟨l0, rfl, hm0⟩ : ∃ l : List Value, cs0 = l.toArray ∧ LKs _ l := ⟨cs0.toList, by simp, hl0⟩
  clear hl0 hf0
  obtain ⟨_, r0_0, rfl, ⟨x0_0, rfl, g0_0⟩, n0_0⟩ := LKs.cons hm0
  obtain ⟨_, r0_1, rfl, ⟨x0_1, rfl, g0_1⟩, n0_1⟩ := LKs.cons n0_0
  obtain rfl := LKs.none n0_1
  obtain ⟨cs1, rfl, sz1⟩ := okWide_struct Try.underlying35 (hval 1 35 v1 rfl rfl)
  have k1 := h1
  have lt1 : ∀ x ∈ p1, x.block < W.heap.size := by obtain ⟨m, hm⟩ := k1; exact DataW.trod_lt m _ _ _ hm
  obtain ⟨_, hf1⟩ := h1
  have hl1 := trod_leafs 5 35 [.int .u64, .int .u64] _ _ _ (by kernel_rfl) (by kernel_rfl) hf1
  obtain ⟨l1, rfl, hm1⟩ : ∃ l : List Value, cs1 = l.toArray ∧ LKs _ l := ⟨cs1.toList, by simp, hl1⟩
  clear hl1 hf1
  obtain ⟨_, r1_0, rfl, ⟨x1_0, rfl, g1_0⟩, n1_0⟩ := LKs.cons hm1
  obtain ⟨_, r1_1, rfl, ⟨x1_1, rfl, g1_1⟩, n1_1⟩ := LKs.cons n1_0
  obtain rfl := LKs.none n1_1
  obtain ⟨cs2, rfl, sz2⟩ := okWide_struct Try.underlying35 (hval 2 35 v2 rfl rfl)
  have k2 := h2
  have lt2 : ∀ x ∈ p2, x.block < W.heap.size := by obtain ⟨m, hm⟩ := k2; exact DataW.trod_lt m _ _ _ hm
  obtain ⟨_, hf2⟩ := h2
  have hl2 := trod_leafs 5 35 [.int .u64, .int .u64] _ _ _ (by kernel_rfl) (by kernel_rfl) hf2
  obtain ⟨l2, rfl, hm2⟩ : ∃ l : List Value, cs2 = l.toArray ∧ LKs _ l := ⟨cs2.toList, by simp, hl2⟩
  clear hl2 hf2
  obtain ⟨_, r2_0, rfl, ⟨x2_0, rfl, g2_0⟩, n2_0⟩ := LKs.cons hm2
  obtain ⟨_, r2_1, rfl, ⟨x2_1, rfl, g2_1⟩, n2_1⟩ := LKs.cons n2_0
  obtain rfl := LKs.none n2_1
  obtain ⟨cs3, rfl, sz3⟩ := okWide_struct Try.underlying35 (hval 3 35 v3 rfl rfl)
  have k3 := h3
  have lt3 : ∀ x ∈ p3, x.block < W.heap.size := by obtain ⟨m, hm⟩ := k3; exact DataW.trod_lt m _ _ _ hm
  obtain ⟨_, hf3⟩ := h3
  have hl3 := trod_leafs 5 35 [.int .u64, .int .u64] _ _ _ (by kernel_rfl) (by kernel_rfl) hf3
  obtain ⟨l3, rfl, hm3⟩ : ∃ l : List Value, cs3 = l.toArray ∧ LKs _ l := ⟨cs3.toList, by simp, hl3⟩
  clear hl3 hf3
  obtain ⟨_, r3_0, rfl, ⟨x3_0, rfl, g3_0⟩, n3_0⟩ := LKs.cons hm3
  obtain ⟨_, r3_1, rfl, ⟨x3_1, rfl, g3_1⟩, n3_1⟩ := LKs.cons n3_0
  obtain rfl := LKs.none n3_1
  clear hA0 hval0
  refine (swaps_law x0_0 x0_1 x1_0 x1_1 x2_0 x2_1 x3_0 x3_1 W).mono fun e W' ⟨he, hf⟩ => ?_
  have bel := hf.below (Nat.le_refl _) (by simp)
  subst he
  exact ⟨_, rfl, _, _, _, [], _, [], hW', trodAll_mk1 (shut_bool Try.underlying4 _), (trodAll_cons_mk (Below.trod laidOut (by kernel_rfl) (of_decide_eq_true (by kernel_rfl)) k0 bel lt0) (trodAll_cons_mk (Below.trod laidOut (by kernel_rfl) (of_decide_eq_true (by kernel_rfl)) k1 bel lt1) (trodAll_cons_mk (Below.trod laidOut (by kernel_rfl) (of_decide_eq_true (by kernel_rfl)) k2 bel lt2) (trodAll_cons_mk (Below.trod laidOut (by kernel_rfl) (of_decide_eq_true (by kernel_rfl)) k3 bel lt3) trodAll_mk0)))), rfl, bel.frame _, fun h => by cases h⟩

theorem cellSwaps_holds : Rows.CellSwapsSaid :=
  OpenClaim.holds_of_wide 4 Try.f4 rfl rfl rfl rfl rfl rfl rfl ⟨rfl, rfl, rfl, rfl, rfl⟩ rfl rfl rfl rfl rfl (by kernel_rfl) Try.func4 (by kernel_rfl)
    (of_decide_eq_true (by kernel_rfl)) (by unfold Func.isWrapper; first | (rw [if_pos (by decide +kernel)]; kernel_rfl) | (rw [if_neg (by decide +kernel)]; exact ⟨rfl, rfl⟩))
    (fun os started H enc _ => cellSwaps_lifted os started H enc)
#print axioms cellSwaps_holds
end Go.Proofs.Ytbgmcekbldponaa
