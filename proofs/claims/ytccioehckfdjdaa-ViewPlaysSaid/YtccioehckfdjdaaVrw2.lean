/- The walk of the document's load (chapter 9). -/
import Derived.Test.YtccioehckfdjdaaVrw
import Derived.Test.YtccioehckfdjdaaVlaw
set_option linter.unusedSimpArgs false
set_option linter.unusedVariables false
namespace Go.Proofs.Ytccioehckfdjdaa
open Go.RowKit Go.Tum Go.Tum.Y Go.Tum.Vw
def zView : List Value := [.int .i64 0, .int .i64 0, .int .i64 0, .int .i64 0, .int .u64 0, .int .u64 0, .int .i64 0, .int .u64 0, .int .i64 0, .bool false]
set_option maxRecDepth 100000 in
set_option maxHeartbeats 4000000 in
theorem rload_need (w : World) (c : Cfg) (who seq : Int) (oa : Option Addr) (n oc : Nat) (x : X) (t : Tp) (p : Int) (hn : n ≤ 100000) (ht : t.at_ ≤ 200000) (l : List O3) (hl : l.length = n) (hO : ArgE enO 3 w (.slice oa n oc) l) (hnd : (t.step n (loadOp p)).need = true) :
    Calls Try.prog 136 #[.agg (xL c who seq x.held x.stale).toArray, .agg (tapeL (.slice oa n oc) t).toArray, .int .i64 p] w fun e w' => e = .returned (.tuple #[.agg (xL c who seq x.held x.stale).toArray, .agg (tapeL (.slice oa n oc) (t.step n (loadOp p))).toArray, .int .u64 0, .int .i64 0]) ∧ Fr [] w w' := by
  have hS := ((((Sep.nil (Fr.refl [] w)).new 34 (xL c who seq x.held x.stale)).new 47 (tapeL (.slice oa n oc) t)).new 34 zView).new 47 zTape
  simp only [World.size_alloc] at hS
  have HS := Lib.hid hS; clear hS
  have HD := Lib.hid (fun w' (f : Fr [] w w') => tload_any w' oa n oc t p hn ht l hl (hO.fr f))
  have hone := tapeL_one oa n oc (t.step n (loadOp p))
  clear hO ht
  generalize t.step n (loadOp p) = t2 at *
  have hoX := xL_one c who seq x.held x.stale
  have hlX : (xL c who seq x.held x.stale).length = 10 := rfl
  generalize xL c who seq x.held x.stale = xl at *
  go_enter Try.func136, Try.ntmps136
  go_wp2_with (first | (refine wpList_load_any 47 _ rfl rfl _ 0 rfl (tapeL (.slice oa n oc) t) _ (HS.out.blk 2 rfl).range Try.underlying47 rfl (by kernel_rfl) ?_))
  refine (HD.out _ HS.out.fr).mono ?_
  rintro e w1 ⟨rfl, hf⟩
  have honeC := enO_hd (t.out l)
  have hS := (HS.out.fr0 hf).new 41 [.int .u64 0, .int .u64 0]
  have HS := Lib.hid hS; clear hS hf HD
  go_wp2_with (first | (refine wpList_store_sep HS.out 3 rfl (tapeL (.slice oa n oc) t2) 47 _ _ rfl rfl rfl rfl rfl (by kernel_rfl) hone (fun wA hA _ => ?_); have HA := Lib.hid hA; clear hA) | (refine wpList_store_sep HA.out 0 rfl [.int .u64 (t.out l).v, .int .u64 (t.out l).s] 41 _ _ rfl rfl rfl rfl rfl (by kernel_rfl) honeC (fun wB hB _ => ?_); have hS := hB; simp only [List.set_cons_zero, List.set_cons_succ] at hS; have n8 := (hS.blk 3 rfl).cell 8; have nl := (hS.blk 3 rfl).lt; simp only [tapeL, List.getElem?_cons_zero, List.getElem?_cons_succ, hnd] at n8; have HB := Lib.hid hS; clear hB hS))
  have HV := HB
  have hmv := (HV.out.blk 4 rfl).drew
  have hmt := (HV.out.blk 3 rfl).drew
  have hlz : (xl).length = zView.length := hlX
  have HS := Lib.hid HV.out.drew
  refine wp_region_fr [(1, [0, 1]), (2, [2]), (3, [3]), (0, [4, 5])] [w.heap.size + 1 + 1] (by kernel_rfl) (by kernel_rfl) ?_
  simp only [theOps, nthOp, List.map_cons, List.map_nil, Array.getD_eq_getD_getElem?, List.getElem?_toArray, List.getElem?_cons_succ, List.getElem?_cons_zero, Option.getD_some]
  refine wpSegs_soft ?_
  refine wpQuiet_load_mid 34 _ w.heap.size 0 xl _ rfl rfl rfl (rangeAt_after hmv (by simp <;> omega)) Try.underlying34 rfl (by rw [hlX]; kernel_rfl) ?_
  simp only [Act.put, List.setIfInBounds_toArray, List.set_cons_zero, List.set_cons_succ]
  refine wpQuiet_load_mid 47 _ (w.heap.size + 1) 0 (tapeL (.slice oa n oc) t2) _ rfl rfl rfl (rangeAt_after hmt (by simp <;> omega)) Try.underlying47 rfl (by kernel_rfl) ?_
  simp only [Act.put, List.setIfInBounds_toArray, List.set_cons_zero, List.set_cons_succ]
  refine wpQuiet_nil ?_
  refine wpSegs_keep ?_
  refine wpList_store_sep HS.out 2 rfl xl 34 _ _ rfl rfl rfl rfl hlz (by rw [hlX]; kernel_rfl) hoX (fun wC hC fC => ?_)
  have HC := Lib.hid hC; have HF := Lib.hid fC
  clear hC fC
  go_wp2_with fail
  refine ⟨⟨⟨_, (by exact HF.out)⟩, rfl⟩, ?_⟩
  refine wpSegs_hard ?_
  refine wpList_store_sep HC.out 1 rfl (tapeL (.slice oa n oc) t2) 47 _ _ rfl rfl rfl rfl rfl (by kernel_rfl) hone (fun wD hD _ => ?_)
  have HDD := Lib.hid hD; clear hD
  go_wp2_with fail
  repeat ((first | refine wpSegs_soft ?_ | refine wpSegs_pure ?_ | refine wpSegs_here ?_); (repeat (first | go_big_quiet_step (fail) | quiet_step (fail))); refine wpQuiet_nil ?_)
  refine wpSegs_done ?_
  go_wp2_with fail
  exact bodyPost_ret (v := .tuple #[.agg (xl).toArray, .agg (tapeL (.slice oa n oc) t2).toArray, .int .u64 0, .int .i64 0]) (res_cctt Try.results136 rfl rfl rfl rfl (HDD.out.blk 2 rfl).range Try.underlying34 rfl (by rw [hlX]; kernel_rfl) (HDD.out.blk 1 rfl).range Try.underlying47 rfl (by kernel_rfl)) rfl ⟨rfl, HDD.out.fr⟩
set_option maxRecDepth 100000 in
set_option maxHeartbeats 4000000 in
theorem rload_stale (w : World) (c : Cfg) (who seq : Int) (oa : Option Addr) (n oc : Nat) (x : X) (t : Tp) (p : Int) (hn : n ≤ 100000) (ht : t.at_ ≤ 200000) (l : List O3) (hl : l.length = n) (hO : ArgE enO 3 w (.slice oa n oc) l) (hnd : (t.step n (loadOp p)).need = false) (hs : seq < (t.out l).s) :
    Calls Try.prog 136 #[.agg (xL c who seq x.held x.stale).toArray, .agg (tapeL (.slice oa n oc) t).toArray, .int .i64 p] w fun e w' => e = .returned (.tuple #[.agg (xL c who seq x.held true).toArray, .agg (tapeL (.slice oa n oc) (t.step n (loadOp p))).toArray, .int .u64 0, .int .i64 2]) ∧ Fr [] w w' := by
  have hS := ((((Sep.nil (Fr.refl [] w)).new 34 (xL c who seq x.held x.stale)).new 47 (tapeL (.slice oa n oc) t)).new 34 zView).new 47 zTape
  simp only [World.size_alloc] at hS
  have HS := Lib.hid hS; clear hS
  have HD := Lib.hid (fun w' (f : Fr [] w w') => tload_any w' oa n oc t p hn ht l hl (hO.fr f))
  have hone := tapeL_one oa n oc (t.step n (loadOp p))
  clear hO ht
  generalize t.step n (loadOp p) = t2 at *
  have hoX := xL_one c who seq x.held x.stale
  have hlX : (xL c who seq x.held x.stale).length = 10 := rfl
  have hx7 : (xL c who seq x.held x.stale)[7]? = some (.int .u64 seq) := rfl
  have hx9 : (xL c who seq x.held x.stale).set 9 (.bool true) = xL c who seq x.held true := rfl
  have hoY := xL_one c who seq x.held true
  have hlY : (xL c who seq x.held true).length = 10 := rfl
  have hgt : decide ((t.out l).s > seq) = true := by simpa using hs
  generalize xL c who seq x.held true = yl at *
  generalize xL c who seq x.held x.stale = xl at *
  go_enter Try.func136, Try.ntmps136
  go_wp2_with (first | (refine wpList_load_any 47 _ rfl rfl _ 0 rfl (tapeL (.slice oa n oc) t) _ (HS.out.blk 2 rfl).range Try.underlying47 rfl (by kernel_rfl) ?_))
  refine (HD.out _ HS.out.fr).mono ?_
  rintro e w1 ⟨rfl, hf⟩
  have honeC := enO_hd (t.out l)
  have hS := (HS.out.fr0 hf).new 41 [.int .u64 0, .int .u64 0]
  have HS := Lib.hid hS; clear hS hf HD
  go_wp2_with (first | (refine wpList_store_sep HS.out 3 rfl (tapeL (.slice oa n oc) t2) 47 _ _ rfl rfl rfl rfl rfl (by kernel_rfl) hone (fun wA hA _ => ?_); have HA := Lib.hid hA; clear hA) | (refine wpList_store_sep HA.out 0 rfl [.int .u64 (t.out l).v, .int .u64 (t.out l).s] 41 _ _ rfl rfl rfl rfl rfl (by kernel_rfl) honeC (fun wB hB _ => ?_); have hS := hB; simp only [List.set_cons_zero, List.set_cons_succ] at hS; have n8 := (hS.blk 3 rfl).cell 8; have nl := (hS.blk 3 rfl).lt; simp only [tapeL, List.getElem?_cons_zero, List.getElem?_cons_succ, hnd] at n8; have c1 := (hS.blk 0 rfl).cell 1; have c1l := (hS.blk 0 rfl).lt; have v7 := ((hS.blk 4 rfl).cell 7).trans hx7; have v9 := (hS.blk 4 rfl).cell 9; have v9f := (hS.blk 4 rfl).froz 9; have vl := (hS.blk 4 rfl).lt; simp only [List.getElem?_cons_zero, List.getElem?_cons_succ] at c1; have HB := Lib.hid hS; clear hB hS))
  have hS := HB.out.set 4 rfl 9 (.bool true)
  simp only [List.set_cons_zero, List.set_cons_succ] at hS
  rw [hx9] at hS
  have HV := Lib.hid hS; clear hS c1 c1l v7 v9 v9f vl n8 nl HB
  generalize World.setCell _ _ _ = wE at HV ⊢
  have hmv := (HV.out.blk 4 rfl).drew
  have hmt := (HV.out.blk 3 rfl).drew
  have hlz : (yl).length = zView.length := hlY
  have HS := Lib.hid HV.out.drew
  refine wp_region_fr [(1, [0, 1]), (2, [2]), (3, [3]), (0, [4, 5])] [w.heap.size + 1 + 1] (by kernel_rfl) (by kernel_rfl) ?_
  simp only [theOps, nthOp, List.map_cons, List.map_nil, Array.getD_eq_getD_getElem?, List.getElem?_toArray, List.getElem?_cons_succ, List.getElem?_cons_zero, Option.getD_some]
  refine wpSegs_soft ?_
  refine wpQuiet_load_mid 34 _ w.heap.size 0 yl _ rfl rfl rfl (rangeAt_after hmv (by simp <;> omega)) Try.underlying34 rfl (by rw [hlY]; kernel_rfl) ?_
  simp only [Act.put, List.setIfInBounds_toArray, List.set_cons_zero, List.set_cons_succ]
  refine wpQuiet_load_mid 47 _ (w.heap.size + 1) 0 (tapeL (.slice oa n oc) t2) _ rfl rfl rfl (rangeAt_after hmt (by simp <;> omega)) Try.underlying47 rfl (by kernel_rfl) ?_
  simp only [Act.put, List.setIfInBounds_toArray, List.set_cons_zero, List.set_cons_succ]
  refine wpQuiet_nil ?_
  refine wpSegs_keep ?_
  refine wpList_store_sep HS.out 2 rfl yl 34 _ _ rfl rfl rfl rfl hlz (by rw [hlY]; kernel_rfl) hoY (fun wC hC fC => ?_)
  have HC := Lib.hid hC; have HF := Lib.hid fC
  clear hC fC
  go_wp2_with fail
  refine ⟨⟨⟨_, (by exact HF.out)⟩, rfl⟩, ?_⟩
  refine wpSegs_hard ?_
  refine wpList_store_sep HC.out 1 rfl (tapeL (.slice oa n oc) t2) 47 _ _ rfl rfl rfl rfl rfl (by kernel_rfl) hone (fun wD hD _ => ?_)
  have HDD := Lib.hid hD; clear hD
  go_wp2_with fail
  repeat ((first | refine wpSegs_soft ?_ | refine wpSegs_pure ?_ | refine wpSegs_here ?_); (repeat (first | go_big_quiet_step (fail) | quiet_step (fail))); refine wpQuiet_nil ?_)
  refine wpSegs_done ?_
  go_wp2_with fail
  exact bodyPost_ret (v := .tuple #[.agg (yl).toArray, .agg (tapeL (.slice oa n oc) t2).toArray, .int .u64 0, .int .i64 2]) (res_cctt Try.results136 rfl rfl rfl rfl (HDD.out.blk 2 rfl).range Try.underlying34 rfl (by rw [hlY]; kernel_rfl) (HDD.out.blk 1 rfl).range Try.underlying47 rfl (by kernel_rfl)) rfl ⟨rfl, HDD.out.fr⟩
set_option maxRecDepth 100000 in
set_option maxHeartbeats 4000000 in
theorem rload_good (w : World) (c : Cfg) (who seq : Int) (oa : Option Addr) (n oc : Nat) (x : X) (t : Tp) (p : Int) (hn : n ≤ 100000) (ht : t.at_ ≤ 200000) (l : List O3) (hl : l.length = n) (hO : ArgE enO 3 w (.slice oa n oc) l) (hnd : (t.step n (loadOp p)).need = false) (hs : ¬ seq < (t.out l).s) :
    Calls Try.prog 136 #[.agg (xL c who seq x.held x.stale).toArray, .agg (tapeL (.slice oa n oc) t).toArray, .int .i64 p] w fun e w' => e = .returned (.tuple #[.agg (xL c who seq x.held x.stale).toArray, .agg (tapeL (.slice oa n oc) (t.step n (loadOp p))).toArray, .int .u64 (t.out l).v, .int .i64 1]) ∧ Fr [] w w' := by
  have hS := ((((Sep.nil (Fr.refl [] w)).new 34 (xL c who seq x.held x.stale)).new 47 (tapeL (.slice oa n oc) t)).new 34 zView).new 47 zTape
  simp only [World.size_alloc] at hS
  have HS := Lib.hid hS; clear hS
  have HD := Lib.hid (fun w' (f : Fr [] w w') => tload_any w' oa n oc t p hn ht l hl (hO.fr f))
  have hone := tapeL_one oa n oc (t.step n (loadOp p))
  clear hO ht
  generalize t.step n (loadOp p) = t2 at *
  have hoX := xL_one c who seq x.held x.stale
  have hlX : (xL c who seq x.held x.stale).length = 10 := rfl
  have hx7 : (xL c who seq x.held x.stale)[7]? = some (.int .u64 seq) := rfl
  have hgt : decide ((t.out l).s > seq) = false := by simpa using hs
  generalize xL c who seq x.held x.stale = xl at *
  go_enter Try.func136, Try.ntmps136
  go_wp2_with (first | (refine wpList_load_any 47 _ rfl rfl _ 0 rfl (tapeL (.slice oa n oc) t) _ (HS.out.blk 2 rfl).range Try.underlying47 rfl (by kernel_rfl) ?_))
  refine (HD.out _ HS.out.fr).mono ?_
  rintro e w1 ⟨rfl, hf⟩
  have honeC := enO_hd (t.out l)
  have hS := (HS.out.fr0 hf).new 41 [.int .u64 0, .int .u64 0]
  have HS := Lib.hid hS; clear hS hf HD
  go_wp2_with (first | (refine wpList_store_sep HS.out 3 rfl (tapeL (.slice oa n oc) t2) 47 _ _ rfl rfl rfl rfl rfl (by kernel_rfl) hone (fun wA hA _ => ?_); have HA := Lib.hid hA; clear hA) | (refine wpList_store_sep HA.out 0 rfl [.int .u64 (t.out l).v, .int .u64 (t.out l).s] 41 _ _ rfl rfl rfl rfl rfl (by kernel_rfl) honeC (fun wB hB _ => ?_); have hS := hB; simp only [List.set_cons_zero, List.set_cons_succ] at hS; have n8 := (hS.blk 3 rfl).cell 8; have nl := (hS.blk 3 rfl).lt; simp only [tapeL, List.getElem?_cons_zero, List.getElem?_cons_succ, hnd] at n8; have c1 := (hS.blk 0 rfl).cell 1; have c1l := (hS.blk 0 rfl).lt; have v7 := ((hS.blk 4 rfl).cell 7).trans hx7; have v9 := (hS.blk 4 rfl).cell 9; have v9f := (hS.blk 4 rfl).froz 9; have vl := (hS.blk 4 rfl).lt; simp only [List.getElem?_cons_zero, List.getElem?_cons_succ] at c1; have HB := Lib.hid hS; clear hB hS))
  have z0 := (HB.out.blk 0 rfl).cell 0
  simp only [List.getElem?_cons_zero, List.getElem?_cons_succ] at z0
  have hz2 : ¬ w1.heap.size = w.heap.size + 1 + 1 := HB.out.ne 0 2 rfl rfl (by decide)
  have hz3 : ¬ w1.heap.size = w.heap.size + 1 + 1 + 1 := HB.out.ne 0 1 rfl rfl (by decide)
  have hmv := (HB.out.blk 4 rfl).drew
  have hmt := (HB.out.blk 3 rfl).drew
  have hlz : xl.length = zView.length := hlX
  have HS := Lib.hid HB.out.drew
  refine wp_region_fr [(1, [0, 1, 2, 3]), (2, [4]), (2, [5]), (0, [6, 7])] [w.heap.size + 1 + 1, w.heap.size + 1 + 1 + 1] (by kernel_rfl) (by kernel_rfl) ?_
  simp only [theOps, nthOp, List.map_cons, List.map_nil, Array.getD_eq_getD_getElem?, List.getElem?_toArray, List.getElem?_cons_succ, List.getElem?_cons_zero, Option.getD_some]
  refine wpSegs_soft ?_
  refine wpQuiet_load_mid 34 _ w.heap.size 0 xl _ rfl rfl rfl (rangeAt_after hmv (by simp <;> omega)) Try.underlying34 rfl (by rw [hlX]; kernel_rfl) ?_
  simp only [Act.put, List.setIfInBounds_toArray, List.set_cons_zero, List.set_cons_succ]
  refine wpQuiet_load_mid 47 _ (w.heap.size + 1) 0 (tapeL (.slice oa n oc) t2) _ rfl rfl rfl (rangeAt_after hmt (by simp <;> omega)) Try.underlying47 rfl (by kernel_rfl) ?_
  simp only [Act.put, List.setIfInBounds_toArray, List.set_cons_zero, List.set_cons_succ]
  repeat (first | go_big_quiet_step (fail) | quiet_step (fail))
  refine wpQuiet_nil ?_
  refine wpSegs_keep ?_
  refine wpList_store_sep HS.out 2 rfl xl 34 _ _ rfl rfl rfl rfl hlz (by rw [hlX]; kernel_rfl) hoX (fun wC hC fC => ?_)
  have HC := Lib.hid hC; have HF := Lib.hid (fC.mono (fp' := [w.heap.size + 1 + 1, w.heap.size + 1 + 1 + 1]) (by simp))
  clear hC fC
  go_wp2_with fail
  refine ⟨⟨⟨_, (by exact HF.out)⟩, rfl⟩, ?_⟩
  refine wpSegs_keep ?_
  refine wpList_store_sep HC.out 1 rfl (tapeL (.slice oa n oc) t2) 47 _ _ rfl rfl rfl rfl rfl (by kernel_rfl) hone (fun wD hD fD => ?_)
  have HDD := Lib.hid hD; have HF := Lib.hid (HF.out.trans (fD.mono (fp' := [w.heap.size + 1 + 1, w.heap.size + 1 + 1 + 1]) (by simp))); clear hD fD
  go_wp2_with fail
  refine ⟨⟨⟨_, (by exact HF.out)⟩, rfl⟩, ?_⟩
  repeat ((first | refine wpSegs_soft ?_ | refine wpSegs_pure ?_ | refine wpSegs_here ?_); (repeat (first | go_big_quiet_step (fail) | quiet_step (fail))); refine wpQuiet_nil ?_)
  refine wpSegs_done ?_
  go_wp2_with fail
  exact bodyPost_ret (v := .tuple #[.agg xl.toArray, .agg (tapeL (.slice oa n oc) t2).toArray, .int .u64 (t.out l).v, .int .i64 1]) (res_cctt Try.results136 rfl rfl rfl rfl (HDD.out.blk 2 rfl).range Try.underlying34 rfl (by rw [hlX]; kernel_rfl) (HDD.out.blk 1 rfl).range Try.underlying47 rfl (by kernel_rfl)) rfl ⟨rfl, HDD.out.fr⟩
end Go.Proofs.Ytccioehckfdjdaa
