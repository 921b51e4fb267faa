/- A region step by step: one of three that write, whichever comes first. -/
import Derived.Test.YtccioehckfdjdaaRegion
namespace Go.Tum
open Go.RowKit
section
variable {P : Program} {ops : Array Oper} {Q : Exit → Act → World → Prop}
theorem step_three {ks : List Nat × List Nat} {S : World → Prop} {N M : Nat} {listed : Array Bool} {a : Act} {w : World} (i j l : Nat)
    (hB : (Region.ready .any ops listed == [i, j, l] && kindK ks i == 2 && kindK ks j == 2 && kindK ks l == 2 && M == N + 1) = true) {oi oj ol : Oper} (hoi : ops[i]? = some oi) (hoj : ops[j]? = some oj) (hol : ops[l]? = some ol)
    (h1 : wpList P ops (Exit.then (fun a' w' => S w' ∧ wpStep P ops ks S Q N (setAll [i] listed) a' w') (NoPanic Q)) [oi] a w)
    (h2 : wpList P ops (Exit.then (fun a' w' => S w' ∧ wpStep P ops ks S Q N (setAll [j] listed) a' w') (NoPanic Q)) [oj] a w)
    (h3 : wpList P ops (Exit.then (fun a' w' => S w' ∧ wpStep P ops ks S Q N (setAll [l] listed) a' w') (NoPanic Q)) [ol] a w) : wpStep P ops ks S Q M listed a w := by
  simp only [Bool.and_eq_true, beq_iff_eq] at hB
  obtain ⟨⟨⟨⟨hr, hki⟩, hkj⟩, hkl⟩, rfl⟩ := hB
  refine ⟨fun h0 => (by rw [hr] at h0; cases h0), fun k hk => ?_⟩
  rw [hr] at hk
  rcases (show k = i ∨ k = j ∨ k = l by simpa using hk) with rfl | rfl | rfl
  · rw [if_neg (by rw [hki]; omega)]
    exact wpOp_mono (fun a' w' hh => ⟨fun _ => hh.1, hh.2⟩) (wpOp_of_list hoi h1)
  · rw [if_neg (by rw [hkj]; omega)]
    exact wpOp_mono (fun a' w' hh => ⟨fun _ => hh.1, hh.2⟩) (wpOp_of_list hoj h2)
  · rw [if_neg (by rw [hkl]; omega)]
    exact wpOp_mono (fun a' w' hh => ⟨fun _ => hh.1, hh.2⟩) (wpOp_of_list hol h3)
end
end Go.Tum
