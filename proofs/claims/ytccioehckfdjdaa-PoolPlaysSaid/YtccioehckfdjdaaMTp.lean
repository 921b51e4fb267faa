/- Several texts in one: Trio, Tload. -/
import Derived.Test.YtccioehckfdjdaaMBase
import Derived.Test.YtccioehckfdjdaaTape
import Derived.Test.YtccioehckfdjdaaMLoad
/- A region step by step: one of three that write, whichever comes first. -/
section
namespace Go.Tum
open Go.RowKit
section
variable {P : Program} {ops : Array Oper} {Q : Exit → Act → World → Prop}
theorem step_three {ks : List Nat × List Nat} {S : World → Prop} {N M : Nat} {listed : Array Bool} {a : Act} {w : World} (i j l : Nat)
    (hB : (Region.ready .any ops listed == [i, j, l] && kindK ks i == 2 && kindK ks j == 2 && kindK ks l == 2 && M == N + 1) = true) {oi oj ol : Oper} (hoi : ops[i]? = some oi) (hoj : ops[j]? = some oj) (hol : ops[l]? = some ol)
    (h1 : wpList P ops (Exit.then (fun a' w' => S w' ∧ wpStep P ops ks S Q N (setAll [i] listed) a' w') (NoPanic Q)) [oi] a w)
    (h2 : wpList P ops (Exit.then (fun a' w' => S w' ∧ wpStep P ops ks S Q N (setAll [j] listed) a' w') (NoPanic Q)) [oj] a w)
    (h3 : wpList P ops (Exit.then (fun a' w' => S w' ∧ wpStep P ops ks S Q N (setAll [l] listed) a' w') (NoPanic Q)) [ol] a w) : wpStep P ops ks S Q M listed a w := by
  simp only [Bool.and_eq_true, beq_iff_eq] at hB
  obtain ⟨⟨⟨⟨hr, hki⟩, hkj⟩, hkl⟩, rfl⟩ := hB
  refine ⟨fun h0 => (by rw [hr] at h0; cases h0), fun k hk => ?_⟩
  rw [hr] at hk
  rcases (show k = i ∨ k = j ∨ k = l by simpa using hk) with rfl | rfl | rfl
  · rw [if_neg (by rw [hki]; omega)]
    exact wpOp_mono (fun a' w' hh => ⟨fun _ => hh.1, hh.2⟩) (wpOp_of_list hoi h1)
  · rw [if_neg (by rw [hkj]; omega)]
    exact wpOp_mono (fun a' w' hh => ⟨fun _ => hh.1, hh.2⟩) (wpOp_of_list hoj h2)
  · rw [if_neg (by rw [hkl]; omega)]
    exact wpOp_mono (fun a' w' hh => ⟨fun _ => hh.1, hh.2⟩) (wpOp_of_list hol h3)
end
end Go.Tum
end

/- The document's Load on a tape; what a walk knows of a tape that is laid as cells. -/
section
set_option linter.unusedSimpArgs false
set_option linter.unusedVariables false
namespace Go.Tum
structure TFt (tl : List Value) (nd : Bool) : Prop where
  len : tl.length = 9
  one : ∀ u ∈ tl, u.oneCell' = true
  need : tl[8]? = some (.bool nd)
theorem tft (oa : Option Addr) (n oc : Nat) (t : Tp) : TFt (tapeL (.slice oa n oc) t) t.need := ⟨rfl, tapeL_one oa n oc t, rfl⟩
theorem tstep_at (n : Nat) (t : Tp) (op : P6) : (t.step n op).at_ ≤ t.at_ + 1 := by
  unfold Tp.step
  repeat (first | omega | (dsimp only; omega) | split)
end Go.Tum
namespace Go.Proofs.Ytccioehckfdjdaa
open Go.RowKit Go.Tum
def zT : List Value := [.slice none 0 0, .int .i64 0, .int .i64 0, .int .i64 0, .int .u64 0, .int .u64 0, .int .u64 0, .int .u64 0, .bool false]
theorem enO_hd2 (o : O3) : ∀ u ∈ [Value.int .u64 o.v, .int .u64 o.s], u.oneCell' = true := by simp [Value.oneCell']
set_option maxRecDepth 100000 in
set_option maxHeartbeats 4000000 in
theorem hload_any (w : World) (oa : Option Addr) (n oc : Nat) (t : Tp) (p : Int) (hn : n ≤ 100000) (ht : t.at_ ≤ 200000) (l : List O3) (hl : l.length = n) (hO : ArgE enO 3 w (.slice oa n oc) l) :
    Calls Try.prog 103 #[.agg (tapeL (.slice oa n oc) t).toArray, .int .i64 p] w fun e w' => e = .returned (.tuple #[.agg (tapeL (.slice oa n oc) (t.step n ⟨0, p, 0, 0, 0, 0⟩)).toArray, .agg [Value.int .u64 (t.out l).v, .int .u64 (t.out l).s].toArray]) ∧ Fr [] w w' := by
  have hS := (((Sep.nil (Fr.refl [] w)).new 47 (tapeL (.slice oa n oc) t)).new 47 zT).new 41 [.int .u64 0, .int .u64 0]
  simp only [World.size_alloc] at hS
  have HS := Lib.hid hS; clear hS
  have HD : Hid (∀ w', Fr [] w w' → Calls Try.prog 120 #[.agg (tapeL (.slice oa n oc) t).toArray, .agg #[.int .i64 0, .int .i64 p, .int .u64 0, .int .u64 0, .int .u64 0, .int .u64 0]] w' fun e w'' => e = .returned (.tuple #[.agg (tapeL (.slice oa n oc) (t.step n ⟨0, p, 0, 0, 0, 0⟩)).toArray, .agg (enO (t.out l)).toArray]) ∧ Fr [] w' w'') :=
    fun w' f => do_any w' oa n oc t ⟨0, p, 0, 0, 0, 0⟩ hn ht l hl (hO.fr f)
  have hone := tapeL_one oa n oc (t.step n ⟨0, p, 0, 0, 0, 0⟩)
  have honeO := enO_one (t.out l)
  generalize t.step n ⟨0, p, 0, 0, 0, 0⟩ = t2 at *
  generalize t.out l = o at *
  clear hO ht
  go_enter Try.func103, Try.ntmps103
  go_wp2_with (first | (refine wpList_load_any 47 _ rfl rfl _ 0 rfl (tapeL (.slice oa n oc) t) _ (HS.out.blk 2 rfl).range Try.underlying47 rfl (by kernel_rfl) ?_))
  refine (HD.out _ HS.out.fr).mono ?_
  rintro e w1 ⟨rfl, hf⟩
  have hS := (HS.out.fr0 hf).new 55 [.int .u64 0, .int .u64 0, .bool false]
  have HS := Lib.hid hS; clear hS hf HD
  go_wp2_with (first | (refine wpList_store_sep HS.out 3 rfl (tapeL (.slice oa n oc) t2) 47 _ _ rfl rfl rfl rfl rfl (by kernel_rfl) hone (fun wA hA _ => ?_); have HA := Lib.hid hA; clear hA) | (refine wpList_store_sep HA.out 0 rfl (enO o) 55 _ _ rfl rfl rfl rfl rfl (by kernel_rfl) honeO (fun wB hB _ => ?_); have HB := Lib.hid hB; clear hB))
  have hS := HB.out
  simp only [List.set_cons_zero, List.set_cons_succ] at hS
  have o0 := (hS.blk 0 rfl).cell 0
  have o1 := (hS.blk 0 rfl).cell 1
  have ol := (hS.blk 0 rfl).lt
  have hon : ¬ w1.heap.size = w.heap.size + 1 := hS.ne 0 2 rfl rfl (by decide)
  simp only [enO, List.getElem?_cons_zero, List.getElem?_cons_succ] at o0 o1
  have hmd := (hS.blk 3 rfl).drew
  have htn : ¬ w.heap.size = w.heap.size + 1 := by omega
  have HS := Lib.hid hS.drew; clear hS HA HB
  go_wp2_with fail
  refine wp_region_fr [(1, [0, 1, 2]), (2, [3]), (3, [4])] [w.heap.size + 1] (by kernel_rfl) (by kernel_rfl) ?_
  simp only [theOps, nthOp, List.map_cons, List.map_nil, Array.getD_eq_getD_getElem?, List.getElem?_toArray, List.getElem?_cons_succ, List.getElem?_cons_zero, Option.getD_some]
  refine wpSegs_soft ?_
  refine wpQuiet_load_mid 47 _ w.heap.size 0 (tapeL (.slice oa n oc) t2) _ rfl rfl rfl (rangeAt_after hmd (by simp)) Try.underlying47 rfl (by kernel_rfl) ?_
  simp only [Act.put, List.setIfInBounds_toArray, List.set_cons_zero, List.set_cons_succ]
  repeat (first | go_big_quiet_step (fail) | quiet_step (fail))
  refine wpQuiet_nil ?_
  refine wpSegs_keep ?_
  refine wpList_store_sep HS.out 2 rfl (tapeL (.slice oa n oc) t2) 47 _ _ rfl rfl rfl rfl rfl (by kernel_rfl) hone (fun wC hC fC => ?_)
  have HC := Lib.hid hC; have HF := Lib.hid fC
  clear hC fC
  go_wp2_with fail
  refine ⟨⟨⟨_, (by exact HF.out)⟩, rfl⟩, ?_⟩
  refine wpSegs_hard ?_
  have honeC := enO_hd2 o
  refine wpList_store_sep HC.out 1 rfl [.int .u64 o.v, .int .u64 o.s] 41 _ _ rfl rfl rfl rfl rfl (by kernel_rfl) honeC (fun wD hD _ => ?_)
  have HDD := Lib.hid hD; clear hD
  go_wp2_with fail
  refine wpSegs_done ?_
  go_wp2_with fail
  exact bodyPost_ret (v := .tuple #[.agg (tapeL (.slice oa n oc) t2).toArray, .agg [Value.int .u64 o.v, .int .u64 o.s].toArray]) (res_cell_cell Try.results103 rfl rfl (HDD.out.blk 2 rfl).range Try.underlying47 rfl (by kernel_rfl) (HDD.out.blk 1 rfl).range Try.underlying41 rfl (by kernel_rfl)) rfl ⟨rfl, HDD.out.fr⟩
end Go.Proofs.Ytccioehckfdjdaa
end
