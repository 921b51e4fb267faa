/- The walk of the law's does (chapter 9). -/
import Derived.Test.YtccioehckfdjdaaVrw5
set_option linter.unusedSimpArgs false
set_option linter.unusedVariables false
namespace Go.Proofs.Ytccioehckfdjdaa
open Go.RowKit Go.Tum Go.Tum.Y Go.Tum.Vw
set_option maxRecDepth 100000 in
set_option maxHeartbeats 16000000 in
theorem does_0 (w : World) (c : Cfg) (hok : Ok c) (who seq : Int) (oa : Option Addr) (n oc : Nat) (x : X) (t : Tp) (K A B : Int) (hn : n ≤ 100000) (ht : t.at_ ≤ 100000) (l : List O3) (hl : l.length = n) (hO : ArgE enO 3 w (.slice oa n oc) l) (h0 : K = 0) (r : Rd) (hr : rcell c seq l x t A = r) :
    Calls Try.prog 20 #[.agg (xL c who seq x.held x.stale).toArray, .agg (tapeL (.slice oa n oc) t).toArray, .agg #[.int .i64 K, .int .i64 A, .int .i64 B]] w fun e w' => e = .returned (.tuple #[.agg (xL c who seq r.x.held r.x.stale).toArray, .agg (tapeL (.slice oa n oc) r.t).toArray, .int .u64 r.val, .int .i64 r.s]) ∧ Fr [] w w' := by
  subst h0
  have HC := Lib.hid (fun w' (f : Fr [] w w') => rcell_any w' c hok who seq oa n oc x t A hn (by omega) l hl (hO.fr f) r hr.symm)
  clear hr
  have hS := (((((Sep.nil (Fr.refl [] w)).new 34 (xL c who seq x.held x.stale)).new 47 (tapeL (.slice oa n oc) t)).new 38 [.int .i64 0, .int .i64 A, .int .i64 B]).new 34 zView).new 47 zTape
  simp only [World.size_alloc] at hS
  unfold zView zTape at hS
  have HS := Lib.hid hS; clear hS
  have XL := Lib.hid (xf c who seq x.held x.stale)
  have TL := Lib.hid (tf oa n oc t)
  have X2 := Lib.hid (xf c who seq r.x.held r.x.stale)
  have T2 := Lib.hid (tf oa n oc r.t)
  generalize xL c who seq x.held x.stale = xl at *
  generalize tapeL (.slice oa n oc) t = tl at *
  generalize xL c who seq r.x.held r.x.stale = xl2 at *
  generalize tapeL (.slice oa n oc) r.t = tl2 at *
  have q0 := (HS.out.blk 2 rfl).cell 0
  have q1 := (HS.out.blk 2 rfl).cell 1
  have q2 := (HS.out.blk 2 rfl).cell 2
  simp only [List.getElem?_cons_zero, List.getElem?_cons_succ] at q0 q1 q2
  have ql := (HS.out.blk 2 rfl).lt
  clear hO
  go_enter Try.func20, Try.ntmps20
  go_wp2_with
    (first | (refine wpList_load_any 34 _ rfl rfl _ 0 rfl xl _ (HS.out.blk 4 rfl).range Try.underlying34 rfl (by rw [XL.out.len]; kernel_rfl) ?_) | (refine wpList_load_any 47 _ rfl rfl _ 0 rfl tl _ (HS.out.blk 3 rfl).range Try.underlying47 rfl (by rw [TL.out.len]; kernel_rfl) ?_))
  refine (HC.out _ HS.out.fr).mono ?_
  rintro e w1 ⟨rfl, hf⟩
  have HS := Lib.hid (HS.out.fr0 hf); clear hf q0 q1 q2 ql
  have hlx : xl2.length = zView.length := X2.out.len
  have hlt : tl2.length = zTape.length := T2.out.len
  have hox := X2.out.one
  have hot := T2.out.one
  go_wp2_with (first | (refine wpList_store_sep HS.out 1 rfl xl2 34 _ _ rfl rfl rfl rfl hlx (by rw [hlx]; kernel_rfl) hox (fun wC hC fC => ?_); have HC2 := Lib.hid hC; clear hC fC) | (refine wpList_store_sep HC2.out 0 rfl tl2 47 _ _ rfl rfl rfl rfl hlt (by rw [hlt]; kernel_rfl) hot (fun wD hD _ => ?_); have HDD := Lib.hid hD; clear hD))
  exact bodyPost_ret (v := .tuple #[.agg xl2.toArray, .agg tl2.toArray, .int .u64 r.val, .int .i64 r.s]) (res_cctt Try.results20 rfl rfl rfl rfl (HDD.out.blk 1 rfl).range Try.underlying34 rfl (by rw [hlx]; kernel_rfl) (HDD.out.blk 0 rfl).range Try.underlying47 rfl (by rw [hlt]; kernel_rfl)) rfl ⟨rfl, HDD.out.fr⟩
set_option maxRecDepth 100000 in
set_option maxHeartbeats 16000000 in
theorem does_1 (w : World) (c : Cfg) (hok : Ok c) (who seq : Int) (oa : Option Addr) (n oc : Nat) (x : X) (t : Tp) (K A B : Int) (hn : n ≤ 100000) (ht : t.at_ ≤ 100000) (l : List O3) (hl : l.length = n) (hO : ArgE enO 3 w (.slice oa n oc) l) (h0 : K = 1) (r : Rd) (hr : rword c who seq l x t B A = r) :
    Calls Try.prog 20 #[.agg (xL c who seq x.held x.stale).toArray, .agg (tapeL (.slice oa n oc) t).toArray, .agg #[.int .i64 K, .int .i64 A, .int .i64 B]] w fun e w' => e = .returned (.tuple #[.agg (xL c who seq r.x.held r.x.stale).toArray, .agg (tapeL (.slice oa n oc) r.t).toArray, .int .u64 r.val, .int .i64 r.s]) ∧ Fr [] w w' := by
  subst h0
  have HC := Lib.hid (fun w' (f : Fr [] w w') => rword_any w' c hok who seq oa n oc x t B A hn ht l hl (hO.fr f) r hr.symm)
  clear hr
  have hS := (((((Sep.nil (Fr.refl [] w)).new 34 (xL c who seq x.held x.stale)).new 47 (tapeL (.slice oa n oc) t)).new 38 [.int .i64 1, .int .i64 A, .int .i64 B]).new 34 zView).new 47 zTape
  simp only [World.size_alloc] at hS
  unfold zView zTape at hS
  have HS := Lib.hid hS; clear hS
  have XL := Lib.hid (xf c who seq x.held x.stale)
  have TL := Lib.hid (tf oa n oc t)
  have X2 := Lib.hid (xf c who seq r.x.held r.x.stale)
  have T2 := Lib.hid (tf oa n oc r.t)
  generalize xL c who seq x.held x.stale = xl at *
  generalize tapeL (.slice oa n oc) t = tl at *
  generalize xL c who seq r.x.held r.x.stale = xl2 at *
  generalize tapeL (.slice oa n oc) r.t = tl2 at *
  have q0 := (HS.out.blk 2 rfl).cell 0
  have q1 := (HS.out.blk 2 rfl).cell 1
  have q2 := (HS.out.blk 2 rfl).cell 2
  simp only [List.getElem?_cons_zero, List.getElem?_cons_succ] at q0 q1 q2
  have ql := (HS.out.blk 2 rfl).lt
  clear hO
  go_enter Try.func20, Try.ntmps20
  go_wp2_with
    (first | (refine wpList_load_any 34 _ rfl rfl _ 0 rfl xl _ (HS.out.blk 4 rfl).range Try.underlying34 rfl (by rw [XL.out.len]; kernel_rfl) ?_) | (refine wpList_load_any 47 _ rfl rfl _ 0 rfl tl _ (HS.out.blk 3 rfl).range Try.underlying47 rfl (by rw [TL.out.len]; kernel_rfl) ?_))
  refine (HC.out _ HS.out.fr).mono ?_
  rintro e w1 ⟨rfl, hf⟩
  have HS := Lib.hid (HS.out.fr0 hf); clear hf q0 q1 q2 ql
  have hlx : xl2.length = zView.length := X2.out.len
  have hlt : tl2.length = zTape.length := T2.out.len
  have hox := X2.out.one
  have hot := T2.out.one
  go_wp2_with (first | (refine wpList_store_sep HS.out 1 rfl xl2 34 _ _ rfl rfl rfl rfl hlx (by rw [hlx]; kernel_rfl) hox (fun wC hC fC => ?_); have HC2 := Lib.hid hC; clear hC fC) | (refine wpList_store_sep HC2.out 0 rfl tl2 47 _ _ rfl rfl rfl rfl hlt (by rw [hlt]; kernel_rfl) hot (fun wD hD _ => ?_); have HDD := Lib.hid hD; clear hD))
  exact bodyPost_ret (v := .tuple #[.agg xl2.toArray, .agg tl2.toArray, .int .u64 r.val, .int .i64 r.s]) (res_cctt Try.results20 rfl rfl rfl rfl (HDD.out.blk 1 rfl).range Try.underlying34 rfl (by rw [hlx]; kernel_rfl) (HDD.out.blk 0 rfl).range Try.underlying47 rfl (by rw [hlt]; kernel_rfl)) rfl ⟨rfl, HDD.out.fr⟩
set_option maxRecDepth 100000 in
set_option maxHeartbeats 16000000 in
theorem does_2 (w : World) (c : Cfg) (hok : Ok c) (who seq : Int) (oa : Option Addr) (n oc : Nat) (x : X) (t : Tp) (K A B : Int) (hn : n ≤ 100000) (ht : t.at_ ≤ 100000) (l : List O3) (hl : l.length = n) (hO : ArgE enO 3 w (.slice oa n oc) l) (h0 : K = 2) (r : Rd) (hr : rlive c who seq l x t B = r) :
    Calls Try.prog 20 #[.agg (xL c who seq x.held x.stale).toArray, .agg (tapeL (.slice oa n oc) t).toArray, .agg #[.int .i64 K, .int .i64 A, .int .i64 B]] w fun e w' => e = .returned (.tuple #[.agg (xL c who seq r.x.held r.x.stale).toArray, .agg (tapeL (.slice oa n oc) r.t).toArray, .int .u64 r.val, .int .i64 r.s]) ∧ Fr [] w w' := by
  subst h0
  have HC := Lib.hid (fun w' (f : Fr [] w w') => rlive_any w' c hok who seq oa n oc x t B hn ht l hl (hO.fr f) r hr.symm)
  have hv : r.val = 0 := by rw [← hr]; exact rlive_val c who seq l x t B
  rw [hv]
  clear hr hv
  have hS := (((((Sep.nil (Fr.refl [] w)).new 34 (xL c who seq x.held x.stale)).new 47 (tapeL (.slice oa n oc) t)).new 38 [.int .i64 2, .int .i64 A, .int .i64 B]).new 34 zView).new 47 zTape
  simp only [World.size_alloc] at hS
  unfold zView zTape at hS
  have HS := Lib.hid hS; clear hS
  have XL := Lib.hid (xf c who seq x.held x.stale)
  have TL := Lib.hid (tf oa n oc t)
  have X2 := Lib.hid (xf c who seq r.x.held r.x.stale)
  have T2 := Lib.hid (tf oa n oc r.t)
  generalize xL c who seq x.held x.stale = xl at *
  generalize tapeL (.slice oa n oc) t = tl at *
  generalize xL c who seq r.x.held r.x.stale = xl2 at *
  generalize tapeL (.slice oa n oc) r.t = tl2 at *
  have q0 := (HS.out.blk 2 rfl).cell 0
  have q1 := (HS.out.blk 2 rfl).cell 1
  have q2 := (HS.out.blk 2 rfl).cell 2
  simp only [List.getElem?_cons_zero, List.getElem?_cons_succ] at q0 q1 q2
  have ql := (HS.out.blk 2 rfl).lt
  clear hO
  go_enter Try.func20, Try.ntmps20
  go_wp2_with
    (first | (refine wpList_load_any 34 _ rfl rfl _ 0 rfl xl _ (HS.out.blk 4 rfl).range Try.underlying34 rfl (by rw [XL.out.len]; kernel_rfl) ?_) | (refine wpList_load_any 47 _ rfl rfl _ 0 rfl tl _ (HS.out.blk 3 rfl).range Try.underlying47 rfl (by rw [TL.out.len]; kernel_rfl) ?_))
  refine (HC.out _ HS.out.fr).mono ?_
  rintro e w1 ⟨rfl, hf⟩
  have HS := Lib.hid (HS.out.fr0 hf); clear hf q0 q1 q2 ql
  have hlx : xl2.length = zView.length := X2.out.len
  have hlt : tl2.length = zTape.length := T2.out.len
  have hox := X2.out.one
  have hot := T2.out.one
  have hw1 : w.heap.size + 1 + 1 + 1 + 1 < w1.heap.size := (HS.out.blk 0 rfl).lt
  have hS := (HS.out.new 34 zView).new 47 zTape
  simp only [World.size_alloc] at hS
  unfold zView zTape at hS
  have HS := Lib.hid hS; clear hS
  go_wp2_with (first | (refine wpList_store_sep HS.out 1 rfl xl2 34 _ _ rfl rfl rfl rfl hlx (by rw [hlx]; kernel_rfl) hox (fun wC hC fC => ?_); have HC2 := Lib.hid hC; clear hC fC) | (refine wpList_store_sep HC2.out 0 rfl tl2 47 _ _ rfl rfl rfl rfl hlt (by rw [hlt]; kernel_rfl) hot (fun wD hD _ => ?_); have HDD := Lib.hid hD; clear hD))
  have hmv := (HDD.out.blk 1 rfl).drew
  have hmt := (HDD.out.blk 0 rfl).drew
  have HS := Lib.hid HDD.out.drew
  refine wp_region_fr [(1, [0, 1]), (0, [2]), (2, [3]), (3, [4]), (0, [5, 6])] [w.heap.size + 1 + 1 + 1] (by kernel_rfl) (by kernel_rfl) ?_
  simp only [theOps, nthOp, List.map_cons, List.map_nil, Array.getD_eq_getD_getElem?, List.getElem?_toArray, List.getElem?_cons_succ, List.getElem?_cons_zero, Option.getD_some]
  refine wpSegs_soft ?_
  refine wpQuiet_load_mid 34 _ w1.heap.size 0 xl2 _ rfl rfl rfl (rangeAt_after hmv (by simp <;> omega)) Try.underlying34 rfl (by rw [hlx]; kernel_rfl) ?_
  simp only [Act.put, List.setIfInBounds_toArray, List.set_cons_zero, List.set_cons_succ]
  refine wpQuiet_load_mid 47 _ (w1.heap.size + 1) 0 tl2 _ rfl rfl rfl (rangeAt_after hmt (by simp <;> omega)) Try.underlying47 rfl (by rw [hlt]; kernel_rfl) ?_
  simp only [Act.put, List.setIfInBounds_toArray, List.set_cons_zero, List.set_cons_succ]
  refine wpQuiet_nil ?_
  repeat ((first | refine wpSegs_soft ?_ | refine wpSegs_pure ?_ | refine wpSegs_here ?_); (repeat (first | go_big_quiet_step (fail) | quiet_step (fail))); refine wpQuiet_nil ?_)
  refine wpSegs_keep ?_
  refine wpList_store_sep HS.out 3 rfl xl2 34 _ _ rfl rfl rfl rfl hlx (by rw [hlx]; kernel_rfl) hox (fun wC hC fC => ?_)
  have HC := Lib.hid hC; have HF := Lib.hid fC
  clear hC fC
  go_wp2_with fail
  refine ⟨⟨⟨_, (by exact HF.out)⟩, rfl⟩, ?_⟩
  refine wpSegs_hard ?_
  refine wpList_store_sep HC.out 2 rfl tl2 47 _ _ rfl rfl rfl rfl hlt (by rw [hlt]; kernel_rfl) hot (fun wD hD _ => ?_)
  have HDD := Lib.hid hD; clear hD
  go_wp2_with fail
  repeat ((first | refine wpSegs_soft ?_ | refine wpSegs_pure ?_ | refine wpSegs_here ?_); (repeat (first | go_big_quiet_step (fail) | quiet_step (fail))); refine wpQuiet_nil ?_)
  refine wpSegs_done ?_
  go_wp2_with fail
  exact bodyPost_ret (v := .tuple #[.agg xl2.toArray, .agg tl2.toArray, .int .u64 0, .int .i64 r.s]) (res_cctt Try.results20 rfl rfl rfl rfl (HDD.out.blk 3 rfl).range Try.underlying34 rfl (by rw [hlx]; kernel_rfl) (HDD.out.blk 2 rfl).range Try.underlying47 rfl (by rw [hlt]; kernel_rfl)) rfl ⟨rfl, HDD.out.fr⟩
set_option maxRecDepth 100000 in
set_option maxHeartbeats 16000000 in
theorem does_3 (w : World) (c : Cfg) (hok : Ok c) (who seq : Int) (oa : Option Addr) (n oc : Nat) (x : X) (t : Tp) (K A B : Int) (hn : n ≤ 100000) (ht : t.at_ ≤ 100000) (l : List O3) (hl : l.length = n) (hO : ArgE enO 3 w (.slice oa n oc) l) (h0 : ¬ K = 0) (h1 : ¬ K = 1) (h2 : ¬ K = 2) (r : Rd) (hr : rcell c seq l x t (Y.at_ c 10 (bits .and .i64 A 15) 0) = r) :
    Calls Try.prog 20 #[.agg (xL c who seq x.held x.stale).toArray, .agg (tapeL (.slice oa n oc) t).toArray, .agg #[.int .i64 K, .int .i64 A, .int .i64 B]] w fun e w' => e = .returned (.tuple #[.agg (xL c who seq r.x.held r.x.stale).toArray, .agg (tapeL (.slice oa n oc) r.t).toArray, .int .u64 r.val, .int .i64 r.s]) ∧ Fr [] w w' := by
  have g0 : (K == 0) = false := by simpa using h0
  have g1 : (K == 1) = false := by simpa using h1
  have g2 : (K == 2) = false := by simpa using h2
  have hsz6 : (cfgL c).length = 6 := rfl
  have HA : Hid (∀ w, Calls Try.prog 94 #[.agg (cfgL c).toArray, .int .i64 10, .int .i64 (bits .and .i64 A 15), .int .i64 0] w fun e w' => e = .returned (.int .i64 (Y.at_ c 10 (bits .and .i64 A 15) 0)) ∧ Fr [] w w') := fun w => rat_any w c hok 10 (bits .and .i64 A 15) 0
  have HC := Lib.hid (fun w' (f : Fr [] w w') => rcell_any w' c hok who seq oa n oc x t (Y.at_ c 10 (bits .and .i64 A 15) 0) hn (by omega) l hl (hO.fr f) r hr.symm)
  clear hr h0 h1 h2
  generalize Y.at_ c 10 (bits .and .i64 A 15) 0 = av at *
  have hS := (((((Sep.nil (Fr.refl [] w)).new 34 (xL c who seq x.held x.stale)).new 47 (tapeL (.slice oa n oc) t)).new 38 [.int .i64 K, .int .i64 A, .int .i64 B]).new 34 zView).new 47 zTape
  simp only [World.size_alloc] at hS
  unfold zView zTape at hS
  have HS := Lib.hid hS; clear hS
  have XL := Lib.hid (xf c who seq x.held x.stale)
  have TL := Lib.hid (tf oa n oc t)
  have X2 := Lib.hid (xf c who seq r.x.held r.x.stale)
  have T2 := Lib.hid (tf oa n oc r.t)
  generalize xL c who seq x.held x.stale = xl at *
  generalize tapeL (.slice oa n oc) t = tl at *
  generalize xL c who seq r.x.held r.x.stale = xl2 at *
  generalize tapeL (.slice oa n oc) r.t = tl2 at *
  have q0 := (HS.out.blk 2 rfl).cell 0
  have q1 := (HS.out.blk 2 rfl).cell 1
  have q2 := (HS.out.blk 2 rfl).cell 2
  simp only [List.getElem?_cons_zero, List.getElem?_cons_succ] at q0 q1 q2
  have ql := (HS.out.blk 2 rfl).lt
  clear hO
  go_enter Try.func20, Try.ntmps20
  generalize cfgL c = cl at *
  go_wp2_with fail
  have hmv := (HS.out.blk 4 rfl).drew
  have hmt := (HS.out.blk 3 rfl).drew
  have hmc := XL.out.range (fp := []) hmv (by simp)
  have hl1 := XL.out.len
  have hl2 := TL.out.len
  have HS := Lib.hid HS.out.drew
  refine wp_region_fr [(1, [0, 1, 2, 3, 4, 5, 6]), (2, [7]), (3, [8]), (0, [9, 10, 11, 12]), (3, [13]), (3, [14]), (0, [15, 16])] [] (by kernel_rfl) (by kernel_rfl) ?_
  simp only [theOps, nthOp, List.map_cons, List.map_nil, Array.getD_eq_getD_getElem?, List.getElem?_toArray, List.getElem?_cons_succ, List.getElem?_cons_zero, Option.getD_some]
  refine wpSegs_soft ?_
  refine wpQuiet_load_mid 34 _ w.heap.size 0 xl _ rfl rfl rfl (rangeAt_after hmv (by simp)) Try.underlying34 rfl (by rw [hl1]; kernel_rfl) ?_
  simp only [Act.put, List.setIfInBounds_toArray, List.set_cons_zero, List.set_cons_succ]
  refine wpQuiet_load_mid 47 _ (w.heap.size + 1) 0 tl _ rfl rfl rfl (rangeAt_after hmt (by simp)) Try.underlying47 rfl (by rw [hl2]; kernel_rfl) ?_
  simp only [Act.put, List.setIfInBounds_toArray, List.set_cons_zero, List.set_cons_succ]
  iterate 1 (first | go_big_quiet_step (fail) | quiet_step (fail))
  refine wpQuiet_load_mid 24 _ w.heap.size 0 cl _ rfl rfl rfl hmc Try.underlying24 rfl (by rw [hsz6]; kernel_rfl) ?_
  simp only [Act.put, List.setIfInBounds_toArray, List.set_cons_zero, List.set_cons_succ]
  repeat (first | go_big_quiet_step (fail) | quiet_step (fail))
  refine wpQuiet_nil ?_
  refine wpSegs_keep ?_
  go_wp2_with fail
  refine (HA.out _).mono ?_
  rintro e w4 ⟨rfl, hf⟩
  have HF := Lib.hid hf
  have HS := Lib.hid (HS.out.fr0 hf); clear hf
  go_wp2_with fail
  refine ⟨⟨⟨_, (by exact HF.out)⟩, rfl⟩, ?_⟩
  refine wpSegs_hard ?_
  go_wp2_with fail
  refine (HC.out _ HS.out.fr).mono ?_
  rintro e w1 ⟨rfl, hf⟩
  have HS := Lib.hid (HS.out.fr0 hf); clear hf q0 q1 q2 ql
  have hlx : xl2.length = zView.length := X2.out.len
  have hlt : tl2.length = zTape.length := T2.out.len
  have hox := X2.out.one
  have hot := T2.out.one
  go_wp2_with fail
  repeat ((first | refine wpSegs_soft ?_ | refine wpSegs_pure ?_ | refine wpSegs_here ?_); (repeat (first | go_big_quiet_step (fail) | quiet_step (fail))); refine wpQuiet_nil ?_)
  refine wpSegs_hard ?_
  refine wpList_store_sep HS.out 1 rfl xl2 34 _ _ rfl rfl rfl rfl hlx (by rw [hlx]; kernel_rfl) hox (fun wC hC fC => ?_)
  have HC2 := Lib.hid hC; clear hC fC
  go_wp2_with fail
  refine wpSegs_hard ?_
  refine wpList_store_sep HC2.out 0 rfl tl2 47 _ _ rfl rfl rfl rfl hlt (by rw [hlt]; kernel_rfl) hot (fun wD hD _ => ?_)
  have HDD := Lib.hid hD; clear hD
  go_wp2_with fail
  repeat ((first | refine wpSegs_soft ?_ | refine wpSegs_pure ?_ | refine wpSegs_here ?_); (repeat (first | go_big_quiet_step (fail) | quiet_step (fail))); refine wpQuiet_nil ?_)
  refine wpSegs_done ?_
  go_wp2_with fail
  exact bodyPost_ret (v := .tuple #[.agg xl2.toArray, .agg tl2.toArray, .int .u64 r.val, .int .i64 r.s]) (res_cctt Try.results20 rfl rfl rfl rfl (HDD.out.blk 1 rfl).range Try.underlying34 rfl (by rw [hlx]; kernel_rfl) (HDD.out.blk 0 rfl).range Try.underlying47 rfl (by rw [hlt]; kernel_rfl)) rfl ⟨rfl, HDD.out.fr⟩
theorem does_any (w : World) (c : Cfg) (hok : Ok c) (who seq : Int) (oa : Option Addr) (n oc : Nat) (x : X) (t : Tp) (K A B : Int) (hn : n ≤ 100000) (ht : t.at_ ≤ 100000) (l : List O3) (hl : l.length = n) (hO : ArgE enO 3 w (.slice oa n oc) l) (r : Rd) (hr : rdoes c who seq l x t K A B = r) :
    Calls Try.prog 20 #[.agg (xL c who seq x.held x.stale).toArray, .agg (tapeL (.slice oa n oc) t).toArray, .agg #[.int .i64 K, .int .i64 A, .int .i64 B]] w fun e w' => e = .returned (.tuple #[.agg (xL c who seq r.x.held r.x.stale).toArray, .agg (tapeL (.slice oa n oc) r.t).toArray, .int .u64 r.val, .int .i64 r.s]) ∧ Fr [] w w' := by
  unfold rdoes at hr
  by_cases h0 : K = 0
  · rw [if_pos h0] at hr
    exact does_0 w c hok who seq oa n oc x t K A B hn ht l hl hO h0 r hr
  rw [if_neg h0] at hr
  by_cases h1 : K = 1
  · rw [if_pos h1] at hr
    exact does_1 w c hok who seq oa n oc x t K A B hn ht l hl hO h1 r hr
  rw [if_neg h1] at hr
  by_cases h2 : K = 2
  · rw [if_pos h2] at hr
    exact does_2 w c hok who seq oa n oc x t K A B hn ht l hl hO h2 r hr
  rw [if_neg h2] at hr
  exact does_3 w c hok who seq oa n oc x t K A B hn ht l hl hO h0 h1 h2 r hr
end Go.Proofs.Ytccioehckfdjdaa
