/- Proved: for every input PoolPlays answers true and leaves its arguments as they were; no condition. -/
import Derived.Test.YtccioehckfdjdaaPplays
import Derived.Test.YtccioehckfdjdaaMArg
import Derived.Test.YtccioehckfdjdaaRowBase
namespace Go.Proofs.Ytccioehckfdjdaa
open Go.ChangeShapes Go.WideShapes Go.ChangeAt Go.RowKit Go.Deep Go.Tum

set_option maxRecDepth 100000 in
theorem poolPlays_lifted (os : Os) (started : os.Started) (H : Type) (enc : TypeId × Value → H) :
    ReturnsInHanded {} Try.checked os 7 .any (Rows.poolPlaysSpec.pre6 enc Try.prog Try.f7 Rows.poolPlaysRow.domain false) (Rows.poolPlaysSpec.post enc Try.prog Try.f7 false true false false) := by
  refine returnsInHanded_of_change (C := Try.checked) own started (by kernel_rfl) Try.func7
    (ChangeSpec.witness6 (enc := enc) (C := Try.checked) false ⟨#[], #[.agg #[.int .i64 0, .int .i64 0, .int .i64 0, .int .i64 0, .int .u64 0, .int .u64 0], .int .u64 0, .slice none 0 0, .slice none 0 0, .int .i64 0], []⟩ 8 (by kernel_rfl) (by kernel_rfl) (by kernel_rfl) (by kernel_rfl)) ?_
  intro W base args ds gs before hval0 hW _ _
  have hval : ∀ (j : Nat) t v, Try.f7.params[j]? = some t → args[j]? = some v → Value.okWide Try.prog W .any base t v := hval0
  have hW' := hW
  obtain ⟨p, q, hA0, hV, rfl, _, _⟩ := hW
  have hA : DataW.TrodAll enc Try.prog W 0 (fun _ => true) true Try.f7.params.toList args.toList ds p := hA0
  rw [Try.params7] at hA hval
  obtain ⟨v0, vs0, d0, ds0, p0, q0, hargs, rfl, rfl, h0, r0⟩ := trodAll_cons hA
  obtain ⟨v1, vs1, d1, ds1, p1, q1, rfl, rfl, rfl, h1, r1⟩ := trodAll_cons r0
  obtain ⟨v2, vs2, d2, ds2, p2, q2, rfl, rfl, rfl, h2, r2⟩ := trodAll_cons r1
  obtain ⟨v3, vs3, d3, ds3, p3, q3, rfl, rfl, rfl, h3, r3⟩ := trodAll_cons r2
  obtain ⟨v4, vs4, d4, ds4, p4, q4, rfl, rfl, rfl, h4, r4⟩ := trodAll_cons r3
  obtain ⟨rfl, rfl, rfl⟩ := trodAll_nil r4
  obtain rfl : args = #[v0, v1, v2, v3, v4] := by cases args; simp_all
  obtain ⟨rfl, rfl⟩ := trodVars_none hV
  obtain ⟨cs0, rfl, sz0⟩ := okWide_struct Try.underlying24 (hval 0 24 v0 rfl rfl)
  have k0 := h0
  have lt0 : ∀ x ∈ p0, x.block < W.heap.size := by obtain ⟨m, hm⟩ := k0; exact DataW.trod_lt m _ _ _ hm
  obtain ⟨_, hf0⟩ := h0
  have hl0 := trod_leafs 5 24 [.int .i64, .int .i64, .int .i64, .int .i64, .int .u64, .int .u64] _ _ _ (by kernel_rfl) (by kernel_rfl) hf0
  obtain ⟨l0, rfl, hm0⟩ : ∃ l : List Value, cs0 = l.toArray ∧ LKs _ l := ⟨cs0.toList, by simp, hl0⟩
  clear hl0 hf0
  obtain ⟨_, r0_0, rfl, ⟨x0_0, rfl, g0_0⟩, n0_0⟩ := LKs.cons hm0
  obtain ⟨_, r0_1, rfl, ⟨x0_1, rfl, g0_1⟩, n0_1⟩ := LKs.cons n0_0
  obtain ⟨_, r0_2, rfl, ⟨x0_2, rfl, g0_2⟩, n0_2⟩ := LKs.cons n0_1
  obtain ⟨_, r0_3, rfl, ⟨x0_3, rfl, g0_3⟩, n0_3⟩ := LKs.cons n0_2
  obtain ⟨_, r0_4, rfl, ⟨x0_4, rfl, g0_4⟩, n0_4⟩ := LKs.cons n0_3
  obtain ⟨_, r0_5, rfl, ⟨x0_5, rfl, g0_5⟩, n0_5⟩ := LKs.cons n0_4
  obtain rfl := LKs.none n0_5
  obtain ⟨a1, rfl, rfl, rfl, w1⟩ := open_int Try.underlying22 (hval 1 22 v1 rfl rfl) h1
  obtain ⟨a2, len2, cap2, rfl⟩ := okWide_slice Try.underlying26 (hval 2 26 v2 rfl rfl)
  have k2 := h2
  have lt2 : ∀ x ∈ p2, x.block < W.heap.size := by obtain ⟨m, hm⟩ := k2; exact DataW.trod_lt m _ _ _ hm
  obtain ⟨_, hf2⟩ := h2
  obtain ⟨l2, w2, rfl, m2⟩ := argOut_of hf2
  obtain ⟨a3, len3, cap3, rfl⟩ := okWide_slice Try.underlying86 (hval 3 86 v3 rfl rfl)
  have k3 := h3
  have lt3 : ∀ x ∈ p3, x.block < W.heap.size := by obtain ⟨m, hm⟩ := k3; exact DataW.trod_lt m _ _ _ hm
  obtain ⟨_, hf3⟩ := h3
  obtain ⟨l3, w3, rfl, m3⟩ := argA2_of hf3
  obtain ⟨a4, rfl, rfl, rfl, w4⟩ := open_int Try.underlying3 (hval 4 3 v4 rfl rfl) h4
  clear hA0 hval0
  refine (pplays_row x0_0 x0_1 x0_2 x0_3 x0_4 x0_5 a1 (.slice a2 l2.length cap2) (.slice a3 l3.length cap3) a4 l2 l3 W w2 w3 m2 m3).mono fun e W' ⟨he, hf⟩ => ?_
  have bel := hf.below (Nat.le_refl _) (by simp)
  subst he
  exact ⟨_, rfl, _, _, _, [], _, [], hW', trodAll_mk1 (shut_bool Try.underlying4 _), (trodAll_cons_mk (Below.trod laidOut (by kernel_rfl) (of_decide_eq_true (by kernel_rfl)) k0 bel lt0) (trodAll_cons_mk (shut_int Try.underlying22 w1) (trodAll_cons_mk (Below.trod laidOut (by kernel_rfl) (of_decide_eq_true (by kernel_rfl)) k2 bel lt2) (trodAll_cons_mk (Below.trod laidOut (by kernel_rfl) (of_decide_eq_true (by kernel_rfl)) k3 bel lt3) (trodAll_cons_mk (shut_int Try.underlying3 w4) trodAll_mk0))))), rfl, bel.frame _, fun h => by cases h⟩

theorem poolPlays_holds : Rows.PoolPlaysSaid :=
  OpenClaim.holds_of_wide 7 Try.f7 rfl rfl rfl rfl rfl rfl rfl ⟨rfl, rfl, rfl, rfl, rfl⟩ rfl rfl rfl rfl rfl (by kernel_rfl) Try.func7 (by kernel_rfl)
    (of_decide_eq_true (by kernel_rfl)) (by unfold Func.isWrapper; first | (rw [if_pos (by decide +kernel)]; kernel_rfl) | (rw [if_neg (by decide +kernel)]; exact ⟨rfl, rfl⟩))
    (fun os started H enc _ => poolPlays_lifted os started H enc)
#print axioms poolPlays_holds
end Go.Proofs.Ytccioehckfdjdaa
