/- The walks of the document's Live, Word (chapter 9). -/
import Derived.Test.YtccioehckfdjdaaVrw3
set_option linter.unusedSimpArgs false
set_option linter.unusedVariables false
namespace Go.Proofs.Ytccioehckfdjdaa
open Go.RowKit Go.Tum Go.Tum.Y Go.Tum.Vw
set_option maxRecDepth 100000 in
set_option maxHeartbeats 16000000 in
theorem rlive_stale (w : World) (c : Cfg) (hok : Ok c) (who seq : Int) (oa : Option Addr) (n oc : Nat) (x : X) (t : Tp) (p : Int) (hn : n ≤ 100000) (ht : t.at_ ≤ 100000) (l : List O3) (hl : l.length = n) (hO : ArgE enO 3 w (.slice oa n oc) l) (h1 : x.stale = true) :
    Calls Try.prog 97 #[.agg (xL c who seq x.held x.stale).toArray, .agg (tapeL (.slice oa n oc) t).toArray, .int .i64 p] w fun e w' => e = .returned (.tuple #[.agg (xL c who seq x.held x.stale).toArray, .agg (tapeL (.slice oa n oc) t).toArray, .int .i64 2]) ∧ Fr [] w w' := by
  have hS := ((((Sep.nil (Fr.refl [] w)).new 34 (xL c who seq x.held x.stale)).new 47 (tapeL (.slice oa n oc) t)).new 34 zView).new 47 zTape
  simp only [World.size_alloc] at hS
  unfold zView zTape at hS
  have HS := Lib.hid hS; clear hS
  have XL := Lib.hid (xf c who seq x.held x.stale)
  have TL := Lib.hid (tf oa n oc t)
  have XL : Hid (XF (xL c who seq x.held x.stale) (cfgL c) seq x.held who c.b true) := by have := XL.out; rw [h1] at this ⊢; exact this
  clear h1 hO
  generalize xL c who seq x.held x.stale = xl at *
  generalize tapeL (.slice oa n oc) t = tl at *
  generalize cfgL c = cl at *
  have hSv := HS.out.blk 3 rfl
  have v1 := (hSv.cell 1).trans XL.out.b
  have v6 := (hSv.cell 6).trans XL.out.who
  have v8 := (hSv.cell 8).trans XL.out.held
  have v9 := (hSv.cell 9).trans XL.out.stale
  have v8f := hSv.froz 8
  have vl := hSv.lt
  go_enter Try.func97, Try.ntmps97
  go_wp2_with fail
  have hmv := (HS.out.blk 3 rfl).drew
  have hmt := (HS.out.blk 2 rfl).drew
  have hlx : (xl).length = zView.length := XL.out.len
  have hlt : (tl).length = zTape.length := TL.out.len
  have hox := XL.out.one
  have hot := TL.out.one
  have HS := Lib.hid HS.out.drew
  refine wp_region_fr [(1, [0, 1]), (2, [2]), (3, [3]), (0, [4])] [w.heap.size + 1 + 1] (by kernel_rfl) (by kernel_rfl) ?_
  simp only [theOps, nthOp, List.map_cons, List.map_nil, Array.getD_eq_getD_getElem?, List.getElem?_toArray, List.getElem?_cons_succ, List.getElem?_cons_zero, Option.getD_some]
  refine wpSegs_soft ?_
  refine wpQuiet_load_mid 34 _ w.heap.size 0 xl _ rfl rfl rfl (rangeAt_after hmv (by simp <;> omega)) Try.underlying34 rfl (by rw [hlx]; kernel_rfl) ?_
  simp only [Act.put, List.setIfInBounds_toArray, List.set_cons_zero, List.set_cons_succ]
  refine wpQuiet_load_mid 47 _ (w.heap.size + 1) 0 tl _ rfl rfl rfl (rangeAt_after hmt (by simp <;> omega)) Try.underlying47 rfl (by rw [hlt]; kernel_rfl) ?_
  simp only [Act.put, List.setIfInBounds_toArray, List.set_cons_zero, List.set_cons_succ]
  refine wpQuiet_nil ?_
  repeat ((first | refine wpSegs_soft ?_ | refine wpSegs_pure ?_ | refine wpSegs_here ?_); (repeat (first | go_big_quiet_step (fail) | quiet_step (fail))); refine wpQuiet_nil ?_)
  refine wpSegs_keep ?_
  refine wpList_store_sep HS.out 1 rfl xl 34 _ _ rfl rfl rfl rfl hlx (by rw [hlx]; kernel_rfl) hox (fun wC hC fC => ?_)
  have HC := Lib.hid hC; have HF := Lib.hid fC
  clear hC fC
  go_wp2_with fail
  refine ⟨⟨⟨_, (by exact HF.out)⟩, rfl⟩, ?_⟩
  refine wpSegs_hard ?_
  refine wpList_store_sep HC.out 0 rfl tl 47 _ _ rfl rfl rfl rfl hlt (by rw [hlt]; kernel_rfl) hot (fun wD hD _ => ?_)
  have HDD := Lib.hid hD; clear hD
  go_wp2_with fail
  repeat ((first | refine wpSegs_soft ?_ | refine wpSegs_pure ?_ | refine wpSegs_here ?_); (repeat (first | go_big_quiet_step (fail) | quiet_step (fail))); refine wpQuiet_nil ?_)
  refine wpSegs_done ?_
  go_wp2_with fail
  exact bodyPost_ret (v := .tuple #[.agg (xl).toArray, .agg (tl).toArray, .int .i64 2]) (res_cct Try.results97 rfl rfl rfl (HDD.out.blk 1 rfl).range Try.underlying34 rfl (by rw [hlx]; kernel_rfl) (HDD.out.blk 0 rfl).range Try.underlying47 rfl (by rw [hlt]; kernel_rfl)) rfl ⟨rfl, HDD.out.fr⟩
set_option maxRecDepth 100000 in
set_option maxHeartbeats 16000000 in
theorem rlive_b1 (w : World) (c : Cfg) (hok : Ok c) (who seq : Int) (oa : Option Addr) (n oc : Nat) (x : X) (t : Tp) (p : Int) (hn : n ≤ 100000) (ht : t.at_ ≤ 100000) (l : List O3) (hl : l.length = n) (hO : ArgE enO 3 w (.slice oa n oc) l) (h1 : x.stale = false) (h3 : p < 0) :
    Calls Try.prog 97 #[.agg (xL c who seq x.held x.stale).toArray, .agg (tapeL (.slice oa n oc) t).toArray, .int .i64 p] w fun e w' => e = .returned (.tuple #[.agg (xL c who seq x.held x.stale).toArray, .agg (tapeL (.slice oa n oc) t).toArray, .int .i64 3]) ∧ Fr [] w w' := by
  have hS := ((((Sep.nil (Fr.refl [] w)).new 34 (xL c who seq x.held x.stale)).new 47 (tapeL (.slice oa n oc) t)).new 34 zView).new 47 zTape
  simp only [World.size_alloc] at hS
  unfold zView zTape at hS
  have HS := Lib.hid hS; clear hS
  have XL := Lib.hid (xf c who seq x.held x.stale)
  have TL := Lib.hid (tf oa n oc t)
  have XL : Hid (XF (xL c who seq x.held x.stale) (cfgL c) seq x.held who c.b false) := by have := XL.out; rw [h1] at this ⊢; exact this
  have g3 : decide (p < 0) = true := by simpa using h3
  clear h3
  clear h1 hO
  generalize xL c who seq x.held x.stale = xl at *
  generalize tapeL (.slice oa n oc) t = tl at *
  generalize cfgL c = cl at *
  have hSv := HS.out.blk 3 rfl
  have v1 := (hSv.cell 1).trans XL.out.b
  have v6 := (hSv.cell 6).trans XL.out.who
  have v8 := (hSv.cell 8).trans XL.out.held
  have v9 := (hSv.cell 9).trans XL.out.stale
  have v8f := hSv.froz 8
  have vl := hSv.lt
  go_enter Try.func97, Try.ntmps97
  go_wp2_with fail
  have hmv := (HS.out.blk 3 rfl).drew
  have hmt := (HS.out.blk 2 rfl).drew
  have hlx : (xl).length = zView.length := XL.out.len
  have hlt : (tl).length = zTape.length := TL.out.len
  have hox := XL.out.one
  have hot := TL.out.one
  have HS := Lib.hid HS.out.drew
  refine wp_region_fr [(1, [0, 1]), (2, [2]), (3, [3]), (0, [4])] [w.heap.size + 1 + 1] (by kernel_rfl) (by kernel_rfl) ?_
  simp only [theOps, nthOp, List.map_cons, List.map_nil, Array.getD_eq_getD_getElem?, List.getElem?_toArray, List.getElem?_cons_succ, List.getElem?_cons_zero, Option.getD_some]
  refine wpSegs_soft ?_
  refine wpQuiet_load_mid 34 _ w.heap.size 0 xl _ rfl rfl rfl (rangeAt_after hmv (by simp <;> omega)) Try.underlying34 rfl (by rw [hlx]; kernel_rfl) ?_
  simp only [Act.put, List.setIfInBounds_toArray, List.set_cons_zero, List.set_cons_succ]
  refine wpQuiet_load_mid 47 _ (w.heap.size + 1) 0 tl _ rfl rfl rfl (rangeAt_after hmt (by simp <;> omega)) Try.underlying47 rfl (by rw [hlt]; kernel_rfl) ?_
  simp only [Act.put, List.setIfInBounds_toArray, List.set_cons_zero, List.set_cons_succ]
  refine wpQuiet_nil ?_
  repeat ((first | refine wpSegs_soft ?_ | refine wpSegs_pure ?_ | refine wpSegs_here ?_); (repeat (first | go_big_quiet_step (fail) | quiet_step (fail))); refine wpQuiet_nil ?_)
  refine wpSegs_keep ?_
  refine wpList_store_sep HS.out 1 rfl xl 34 _ _ rfl rfl rfl rfl hlx (by rw [hlx]; kernel_rfl) hox (fun wC hC fC => ?_)
  have HC := Lib.hid hC; have HF := Lib.hid fC
  clear hC fC
  go_wp2_with fail
  refine ⟨⟨⟨_, (by exact HF.out)⟩, rfl⟩, ?_⟩
  refine wpSegs_hard ?_
  refine wpList_store_sep HC.out 0 rfl tl 47 _ _ rfl rfl rfl rfl hlt (by rw [hlt]; kernel_rfl) hot (fun wD hD _ => ?_)
  have HDD := Lib.hid hD; clear hD
  go_wp2_with fail
  repeat ((first | refine wpSegs_soft ?_ | refine wpSegs_pure ?_ | refine wpSegs_here ?_); (repeat (first | go_big_quiet_step (fail) | quiet_step (fail))); refine wpQuiet_nil ?_)
  refine wpSegs_done ?_
  go_wp2_with fail
  exact bodyPost_ret (v := .tuple #[.agg (xl).toArray, .agg (tl).toArray, .int .i64 3]) (res_cct Try.results97 rfl rfl rfl (HDD.out.blk 1 rfl).range Try.underlying34 rfl (by rw [hlx]; kernel_rfl) (HDD.out.blk 0 rfl).range Try.underlying47 rfl (by rw [hlt]; kernel_rfl)) rfl ⟨rfl, HDD.out.fr⟩
set_option maxRecDepth 100000 in
set_option maxHeartbeats 16000000 in
theorem rlive_b2 (w : World) (c : Cfg) (hok : Ok c) (who seq : Int) (oa : Option Addr) (n oc : Nat) (x : X) (t : Tp) (p : Int) (hn : n ≤ 100000) (ht : t.at_ ≤ 100000) (l : List O3) (hl : l.length = n) (hO : ArgE enO 3 w (.slice oa n oc) l) (h1 : x.stale = false) (h3 : ¬ p < 0) (h4 : c.b ≤ p) :
    Calls Try.prog 97 #[.agg (xL c who seq x.held x.stale).toArray, .agg (tapeL (.slice oa n oc) t).toArray, .int .i64 p] w fun e w' => e = .returned (.tuple #[.agg (xL c who seq x.held x.stale).toArray, .agg (tapeL (.slice oa n oc) t).toArray, .int .i64 3]) ∧ Fr [] w w' := by
  have hS := ((((Sep.nil (Fr.refl [] w)).new 34 (xL c who seq x.held x.stale)).new 47 (tapeL (.slice oa n oc) t)).new 34 zView).new 47 zTape
  simp only [World.size_alloc] at hS
  unfold zView zTape at hS
  have HS := Lib.hid hS; clear hS
  have XL := Lib.hid (xf c who seq x.held x.stale)
  have TL := Lib.hid (tf oa n oc t)
  have XL : Hid (XF (xL c who seq x.held x.stale) (cfgL c) seq x.held who c.b false) := by have := XL.out; rw [h1] at this ⊢; exact this
  have g3 : decide (p < 0) = false := by simpa using h3
  have g4 : decide (p ≥ c.b) = true := by simpa using h4
  clear h3 h4
  clear h1 hO
  generalize xL c who seq x.held x.stale = xl at *
  generalize tapeL (.slice oa n oc) t = tl at *
  generalize cfgL c = cl at *
  have hSv := HS.out.blk 3 rfl
  have v1 := (hSv.cell 1).trans XL.out.b
  have v6 := (hSv.cell 6).trans XL.out.who
  have v8 := (hSv.cell 8).trans XL.out.held
  have v9 := (hSv.cell 9).trans XL.out.stale
  have v8f := hSv.froz 8
  have vl := hSv.lt
  go_enter Try.func97, Try.ntmps97
  go_wp2_with fail
  have hmv := (HS.out.blk 3 rfl).drew
  have hmt := (HS.out.blk 2 rfl).drew
  have hlx : (xl).length = zView.length := XL.out.len
  have hlt : (tl).length = zTape.length := TL.out.len
  have hox := XL.out.one
  have hot := TL.out.one
  have HS := Lib.hid HS.out.drew
  refine wp_region_fr [(1, [0, 1]), (2, [2]), (3, [3]), (0, [4])] [w.heap.size + 1 + 1] (by kernel_rfl) (by kernel_rfl) ?_
  simp only [theOps, nthOp, List.map_cons, List.map_nil, Array.getD_eq_getD_getElem?, List.getElem?_toArray, List.getElem?_cons_succ, List.getElem?_cons_zero, Option.getD_some]
  refine wpSegs_soft ?_
  refine wpQuiet_load_mid 34 _ w.heap.size 0 xl _ rfl rfl rfl (rangeAt_after hmv (by simp <;> omega)) Try.underlying34 rfl (by rw [hlx]; kernel_rfl) ?_
  simp only [Act.put, List.setIfInBounds_toArray, List.set_cons_zero, List.set_cons_succ]
  refine wpQuiet_load_mid 47 _ (w.heap.size + 1) 0 tl _ rfl rfl rfl (rangeAt_after hmt (by simp <;> omega)) Try.underlying47 rfl (by rw [hlt]; kernel_rfl) ?_
  simp only [Act.put, List.setIfInBounds_toArray, List.set_cons_zero, List.set_cons_succ]
  refine wpQuiet_nil ?_
  repeat ((first | refine wpSegs_soft ?_ | refine wpSegs_pure ?_ | refine wpSegs_here ?_); (repeat (first | go_big_quiet_step (fail) | quiet_step (fail))); refine wpQuiet_nil ?_)
  refine wpSegs_keep ?_
  refine wpList_store_sep HS.out 1 rfl xl 34 _ _ rfl rfl rfl rfl hlx (by rw [hlx]; kernel_rfl) hox (fun wC hC fC => ?_)
  have HC := Lib.hid hC; have HF := Lib.hid fC
  clear hC fC
  go_wp2_with fail
  refine ⟨⟨⟨_, (by exact HF.out)⟩, rfl⟩, ?_⟩
  refine wpSegs_hard ?_
  refine wpList_store_sep HC.out 0 rfl tl 47 _ _ rfl rfl rfl rfl hlt (by rw [hlt]; kernel_rfl) hot (fun wD hD _ => ?_)
  have HDD := Lib.hid hD; clear hD
  go_wp2_with fail
  repeat ((first | refine wpSegs_soft ?_ | refine wpSegs_pure ?_ | refine wpSegs_here ?_); (repeat (first | go_big_quiet_step (fail) | quiet_step (fail))); refine wpQuiet_nil ?_)
  refine wpSegs_done ?_
  go_wp2_with fail
  exact bodyPost_ret (v := .tuple #[.agg (xl).toArray, .agg (tl).toArray, .int .i64 3]) (res_cct Try.results97 rfl rfl rfl (HDD.out.blk 1 rfl).range Try.underlying34 rfl (by rw [hlx]; kernel_rfl) (HDD.out.blk 0 rfl).range Try.underlying47 rfl (by rw [hlt]; kernel_rfl)) rfl ⟨rfl, HDD.out.fr⟩
set_option maxRecDepth 100000 in
set_option maxHeartbeats 16000000 in
theorem rlive_held (w : World) (c : Cfg) (hok : Ok c) (who seq : Int) (oa : Option Addr) (n oc : Nat) (x : X) (t : Tp) (p : Int) (hn : n ≤ 100000) (ht : t.at_ ≤ 100000) (l : List O3) (hl : l.length = n) (hO : ArgE enO 3 w (.slice oa n oc) l) (h1 : x.stale = false) (h3 : 0 ≤ p ∧ p < c.b) (h5 : x.held = p) :
    Calls Try.prog 97 #[.agg (xL c who seq x.held x.stale).toArray, .agg (tapeL (.slice oa n oc) t).toArray, .int .i64 p] w fun e w' => e = .returned (.tuple #[.agg (xL c who seq x.held x.stale).toArray, .agg (tapeL (.slice oa n oc) t).toArray, .int .i64 1]) ∧ Fr [] w w' := by
  have hS := ((((Sep.nil (Fr.refl [] w)).new 34 (xL c who seq x.held x.stale)).new 47 (tapeL (.slice oa n oc) t)).new 34 zView).new 47 zTape
  simp only [World.size_alloc] at hS
  unfold zView zTape at hS
  have HS := Lib.hid hS; clear hS
  have XL := Lib.hid (xf c who seq x.held x.stale)
  have TL := Lib.hid (tf oa n oc t)
  have XL : Hid (XF (xL c who seq x.held x.stale) (cfgL c) seq x.held who c.b false) := by have := XL.out; rw [h1] at this ⊢; exact this
  have g3 : decide (p < 0) = false := by simp; omega
  have g4 : decide (p ≥ c.b) = false := by simp; omega
  have g5 : (x.held == p) = true := by simpa using h5
  clear h3 h5
  clear h1 hO
  generalize xL c who seq x.held x.stale = xl at *
  generalize tapeL (.slice oa n oc) t = tl at *
  generalize cfgL c = cl at *
  have hSv := HS.out.blk 3 rfl
  have v1 := (hSv.cell 1).trans XL.out.b
  have v6 := (hSv.cell 6).trans XL.out.who
  have v8 := (hSv.cell 8).trans XL.out.held
  have v9 := (hSv.cell 9).trans XL.out.stale
  have v8f := hSv.froz 8
  have vl := hSv.lt
  go_enter Try.func97, Try.ntmps97
  go_wp2_with fail
  have hmv := (HS.out.blk 3 rfl).drew
  have hmt := (HS.out.blk 2 rfl).drew
  have hlx : (xl).length = zView.length := XL.out.len
  have hlt : (tl).length = zTape.length := TL.out.len
  have hox := XL.out.one
  have hot := TL.out.one
  have HS := Lib.hid HS.out.drew
  refine wp_region_fr [(1, [0, 1]), (2, [2]), (3, [3]), (0, [4])] [w.heap.size + 1 + 1] (by kernel_rfl) (by kernel_rfl) ?_
  simp only [theOps, nthOp, List.map_cons, List.map_nil, Array.getD_eq_getD_getElem?, List.getElem?_toArray, List.getElem?_cons_succ, List.getElem?_cons_zero, Option.getD_some]
  refine wpSegs_soft ?_
  refine wpQuiet_load_mid 34 _ w.heap.size 0 xl _ rfl rfl rfl (rangeAt_after hmv (by simp <;> omega)) Try.underlying34 rfl (by rw [hlx]; kernel_rfl) ?_
  simp only [Act.put, List.setIfInBounds_toArray, List.set_cons_zero, List.set_cons_succ]
  refine wpQuiet_load_mid 47 _ (w.heap.size + 1) 0 tl _ rfl rfl rfl (rangeAt_after hmt (by simp <;> omega)) Try.underlying47 rfl (by rw [hlt]; kernel_rfl) ?_
  simp only [Act.put, List.setIfInBounds_toArray, List.set_cons_zero, List.set_cons_succ]
  refine wpQuiet_nil ?_
  repeat ((first | refine wpSegs_soft ?_ | refine wpSegs_pure ?_ | refine wpSegs_here ?_); (repeat (first | go_big_quiet_step (fail) | quiet_step (fail))); refine wpQuiet_nil ?_)
  refine wpSegs_keep ?_
  refine wpList_store_sep HS.out 1 rfl xl 34 _ _ rfl rfl rfl rfl hlx (by rw [hlx]; kernel_rfl) hox (fun wC hC fC => ?_)
  have HC := Lib.hid hC; have HF := Lib.hid fC
  clear hC fC
  go_wp2_with fail
  refine ⟨⟨⟨_, (by exact HF.out)⟩, rfl⟩, ?_⟩
  refine wpSegs_hard ?_
  refine wpList_store_sep HC.out 0 rfl tl 47 _ _ rfl rfl rfl rfl hlt (by rw [hlt]; kernel_rfl) hot (fun wD hD _ => ?_)
  have HDD := Lib.hid hD; clear hD
  go_wp2_with fail
  repeat ((first | refine wpSegs_soft ?_ | refine wpSegs_pure ?_ | refine wpSegs_here ?_); (repeat (first | go_big_quiet_step (fail) | quiet_step (fail))); refine wpQuiet_nil ?_)
  refine wpSegs_done ?_
  go_wp2_with fail
  exact bodyPost_ret (v := .tuple #[.agg (xl).toArray, .agg (tl).toArray, .int .i64 1]) (res_cct Try.results97 rfl rfl rfl (HDD.out.blk 1 rfl).range Try.underlying34 rfl (by rw [hlx]; kernel_rfl) (HDD.out.blk 0 rfl).range Try.underlying47 rfl (by rw [hlt]; kernel_rfl)) rfl ⟨rfl, HDD.out.fr⟩
set_option maxRecDepth 100000 in
set_option maxHeartbeats 16000000 in
theorem rlive_need (w : World) (c : Cfg) (hok : Ok c) (who seq : Int) (oa : Option Addr) (n oc : Nat) (x : X) (t : Tp) (p : Int) (hn : n ≤ 100000) (ht : t.at_ ≤ 100000) (l : List O3) (hl : l.length = n) (hO : ArgE enO 3 w (.slice oa n oc) l) (h1 : x.stale = false) (h3 : 0 ≤ p ∧ p < c.b) (h5 : ¬ x.held = p) (t2 : Tp) (h2 : t.step n ⟨1, Y.at_ c 3 who 0, 0, 0, nameOf p, 0⟩ = t2) (h6 : t2.need = true) :
    Calls Try.prog 97 #[.agg (xL c who seq x.held x.stale).toArray, .agg (tapeL (.slice oa n oc) t).toArray, .int .i64 p] w fun e w' => e = .returned (.tuple #[.agg (xL c who seq x.held x.stale).toArray, .agg (tapeL (.slice oa n oc) t2).toArray, .int .i64 0]) ∧ Fr [] w w' := by
  have hsz6 : (cfgL c).length = 6 := rfl
  have HA3 : Hid (∀ w, Calls Try.prog 94 #[.agg (cfgL c).toArray, .int .i64 3, .int .i64 who, .int .i64 0] w fun e w' => e = .returned (.int .i64 (Y.at_ c 3 who 0)) ∧ Fr [] w w') := fun w => rat_any w c hok 3 who 0
  have HA11 : Hid (∀ w, Calls Try.prog 94 #[.agg (cfgL c).toArray, .int .i64 11, .int .i64 p, .int .i64 0] w fun e w' => e = .returned (.int .i64 (Y.at_ c 11 p 0)) ∧ Fr [] w w') := fun w => rat_any w c hok 11 p 0
  have HST := Lib.hid (fun w' (f : Fr [] w w') => store_any w' oa n oc t (Y.at_ c 3 who 0) (nameOf p) 0 hn (by omega) l hl (hO.fr f))
  have g3 : decide (p < 0) = false := by simp; omega
  have g4 : decide (p ≥ c.b) = false := by simp; omega
  have g5 : (x.held == p) = false := by simpa using h5
  have hta := step_at n t ⟨1, Y.at_ c 3 who 0, 0, 0, nameOf p, 0⟩
  clear HA11
  have T2 : Hid (TF (tapeL (.slice oa n oc) t2) true) := by have := tf oa n oc t2; rwa [h6] at this
  obtain ⟨nm, hnm, hnm2⟩ := nameV_wrap p
  rw [hnm2] at h2 HST
  clear hnm2 hta
  generalize Y.at_ c 3 who 0 = a3 at *
  rw [h2] at HST
  clear h2
  have hS := ((((Sep.nil (Fr.refl [] w)).new 34 (xL c who seq x.held x.stale)).new 47 (tapeL (.slice oa n oc) t)).new 34 zView).new 47 zTape
  simp only [World.size_alloc] at hS
  unfold zView zTape at hS
  have HS := Lib.hid hS; clear hS
  have XL := Lib.hid (xf c who seq x.held x.stale)
  have TL := Lib.hid (tf oa n oc t)
  have XL : Hid (XF (xL c who seq x.held x.stale) (cfgL c) seq x.held who c.b false) := by have := XL.out; rw [h1] at this ⊢; exact this
  clear h1 hO h6 h3 h5
  generalize tapeL (.slice oa n oc) t2 = tl2 at *
  generalize xL c who seq x.held x.stale = xl at *
  generalize tapeL (.slice oa n oc) t = tl at *
  generalize cfgL c = cl at *
  have hs2 := HS.out
  have hSv := HS.out.blk 3 rfl
  have v1 := (hSv.cell 1).trans XL.out.b
  have v6 := (hSv.cell 6).trans XL.out.who
  have v8 := (hSv.cell 8).trans XL.out.held
  have v9 := (hSv.cell 9).trans XL.out.stale
  have v8f := hSv.froz 8
  have vl := hSv.lt
  clear hSv
  go_enter Try.func97, Try.ntmps97
  go_wp2_with fail
  have hmv := (HS.out.blk 3 rfl).drew
  have hmt := (HS.out.blk 2 rfl).drew
  have hlx := XL.out.len
  have hlt := TL.out.len
  have hmc := XL.out.range (fp := []) hmv (by simp)
  have HS := Lib.hid HS.out.drew
  refine wp_region_fr [(1, [0, 1, 2, 3, 4, 6, 7, 8, 9]), (2, [5]), (3, [10]), (3, [11])] [] (by kernel_rfl) (by kernel_rfl) ?_
  simp only [theOps, nthOp, List.map_cons, List.map_nil, Array.getD_eq_getD_getElem?, List.getElem?_toArray, List.getElem?_cons_succ, List.getElem?_cons_zero, Option.getD_some]
  refine wpSegs_soft ?_
  refine wpQuiet_load_mid 47 _ (w.heap.size + 1) 0 tl _ rfl rfl rfl (rangeAt_after hmt (by simp)) Try.underlying47 rfl (by rw [hlt]; kernel_rfl) ?_
  simp only [Act.put, List.setIfInBounds_toArray, List.set_cons_zero, List.set_cons_succ]
  iterate 1 (first | go_big_quiet_step (fail) | quiet_step (fail))
  refine wpQuiet_load_mid 24 _ w.heap.size 0 cl _ rfl rfl rfl hmc Try.underlying24 rfl (by rw [hsz6]; kernel_rfl) ?_
  simp only [Act.put, List.setIfInBounds_toArray, List.set_cons_zero, List.set_cons_succ]
  repeat (first | go_big_quiet_step (fail) | quiet_step (fail))
  refine wpQuiet_nil ?_
  refine wpSegs_keep ?_
  go_wp2_with fail
  refine (HA3.out _).mono ?_
  rintro e w2 ⟨rfl, hf⟩
  have HF := Lib.hid hf
  have HS := Lib.hid (HS.out.fr0 hf); clear hf
  go_wp2_with fail
  refine ⟨⟨⟨_, (by exact HF.out)⟩, rfl⟩, ?_⟩
  refine wpSegs_hard ?_
  go_wp2_with fail
  try rw [hnm]
  refine (HST.out _ HS.out.fr).mono ?_
  rintro e w3 ⟨rfl, hf⟩
  have HS := Lib.hid (HS.out.fr0 hf); clear hf
  go_wp2_with fail
  refine wpSegs_hard ?_
  refine wpList_store_sep HS.out 2 rfl tl2 47 _ _ rfl rfl rfl rfl (by rw [T2.out.len, hlt]) (by rw [T2.out.len]; kernel_rfl) T2.out.one (fun wC hC fC => ?_)
  have HS := Lib.hid hC; clear hC fC
  go_wp2_with fail
  repeat ((first | refine wpSegs_soft ?_ | refine wpSegs_pure ?_ | refine wpSegs_here ?_); (repeat (first | go_big_quiet_step (fail) | quiet_step (fail))); refine wpQuiet_nil ?_)
  refine wpSegs_done ?_
  clear v1 v6 v8 v9 v8f vl hmv hmt hlx hlt hmc hs2
  have TL := T2
  have n8 := ((HS.out.blk 2 rfl).cell 8).trans TL.out.need
  have nl := (HS.out.blk 2 rfl).lt
  go_wp2_with fail
  have hmv := (HS.out.blk 3 rfl).drew
  have hmt := (HS.out.blk 2 rfl).drew
  have hlx : (xl).length = zView.length := XL.out.len
  have hlt : (tl2).length = zTape.length := TL.out.len
  have hox := XL.out.one
  have hot := TL.out.one
  have HS := Lib.hid HS.out.drew
  refine wp_region_fr [(1, [0, 1]), (2, [2]), (3, [3]), (0, [4])] [w.heap.size + 1 + 1] (by kernel_rfl) (by kernel_rfl) ?_
  simp only [theOps, nthOp, List.map_cons, List.map_nil, Array.getD_eq_getD_getElem?, List.getElem?_toArray, List.getElem?_cons_succ, List.getElem?_cons_zero, Option.getD_some]
  refine wpSegs_soft ?_
  refine wpQuiet_load_mid 34 _ w.heap.size 0 xl _ rfl rfl rfl (rangeAt_after hmv (by simp <;> omega)) Try.underlying34 rfl (by rw [hlx]; kernel_rfl) ?_
  simp only [Act.put, List.setIfInBounds_toArray, List.set_cons_zero, List.set_cons_succ]
  refine wpQuiet_load_mid 47 _ (w.heap.size + 1) 0 tl2 _ rfl rfl rfl (rangeAt_after hmt (by simp <;> omega)) Try.underlying47 rfl (by rw [hlt]; kernel_rfl) ?_
  simp only [Act.put, List.setIfInBounds_toArray, List.set_cons_zero, List.set_cons_succ]
  refine wpQuiet_nil ?_
  repeat ((first | refine wpSegs_soft ?_ | refine wpSegs_pure ?_ | refine wpSegs_here ?_); (repeat (first | go_big_quiet_step (fail) | quiet_step (fail))); refine wpQuiet_nil ?_)
  refine wpSegs_keep ?_
  refine wpList_store_sep HS.out 1 rfl xl 34 _ _ rfl rfl rfl rfl hlx (by rw [hlx]; kernel_rfl) hox (fun wC hC fC => ?_)
  have HC := Lib.hid hC; have HF := Lib.hid fC
  clear hC fC
  go_wp2_with fail
  refine ⟨⟨⟨_, (by exact HF.out)⟩, rfl⟩, ?_⟩
  refine wpSegs_hard ?_
  refine wpList_store_sep HC.out 0 rfl tl2 47 _ _ rfl rfl rfl rfl hlt (by rw [hlt]; kernel_rfl) hot (fun wD hD _ => ?_)
  have HDD := Lib.hid hD; clear hD
  go_wp2_with fail
  repeat ((first | refine wpSegs_soft ?_ | refine wpSegs_pure ?_ | refine wpSegs_here ?_); (repeat (first | go_big_quiet_step (fail) | quiet_step (fail))); refine wpQuiet_nil ?_)
  refine wpSegs_done ?_
  go_wp2_with fail
  exact bodyPost_ret (v := .tuple #[.agg (xl).toArray, .agg (tl2).toArray, .int .i64 0]) (res_cct Try.results97 rfl rfl rfl (HDD.out.blk 1 rfl).range Try.underlying34 rfl (by rw [hlx]; kernel_rfl) (HDD.out.blk 0 rfl).range Try.underlying47 rfl (by rw [hlt]; kernel_rfl)) rfl ⟨rfl, HDD.out.fr⟩
set_option maxRecDepth 100000 in
set_option maxHeartbeats 16000000 in
theorem rlive_good (w : World) (c : Cfg) (hok : Ok c) (who seq : Int) (oa : Option Addr) (n oc : Nat) (x : X) (t : Tp) (p : Int) (hn : n ≤ 100000) (ht : t.at_ ≤ 100000) (l : List O3) (hl : l.length = n) (hO : ArgE enO 3 w (.slice oa n oc) l) (h1 : x.stale = false) (h3 : 0 ≤ p ∧ p < c.b) (h5 : ¬ x.held = p) (t2 : Tp) (h2 : t.step n ⟨1, Y.at_ c 3 who 0, 0, 0, nameOf p, 0⟩ = t2) (h6 : t2.need = false) (r : Rd) (hr : rload seq l { x with held := -1 } t2 (Y.at_ c 11 p 0) = r) (h7 : r.s = 1) (h8 : r.val = 1) :
    Calls Try.prog 97 #[.agg (xL c who seq x.held x.stale).toArray, .agg (tapeL (.slice oa n oc) t).toArray, .int .i64 p] w fun e w' => e = .returned (.tuple #[.agg (xL c who seq p r.x.stale).toArray, .agg (tapeL (.slice oa n oc) r.t).toArray, .int .i64 1]) ∧ Fr [] w w' := by
  have hsz6 : (cfgL c).length = 6 := rfl
  have HA3 : Hid (∀ w, Calls Try.prog 94 #[.agg (cfgL c).toArray, .int .i64 3, .int .i64 who, .int .i64 0] w fun e w' => e = .returned (.int .i64 (Y.at_ c 3 who 0)) ∧ Fr [] w w') := fun w => rat_any w c hok 3 who 0
  have HA11 : Hid (∀ w, Calls Try.prog 94 #[.agg (cfgL c).toArray, .int .i64 11, .int .i64 p, .int .i64 0] w fun e w' => e = .returned (.int .i64 (Y.at_ c 11 p 0)) ∧ Fr [] w w') := fun w => rat_any w c hok 11 p 0
  have HST := Lib.hid (fun w' (f : Fr [] w w') => store_any w' oa n oc t (Y.at_ c 3 who 0) (nameOf p) 0 hn (by omega) l hl (hO.fr f))
  have g3 : decide (p < 0) = false := by simp; omega
  have g4 : decide (p ≥ c.b) = false := by simp; omega
  have g5 : (x.held == p) = false := by simpa using h5
  have hta := step_at n t ⟨1, Y.at_ c 3 who 0, 0, 0, nameOf p, 0⟩
  have XY := Lib.hid (xf c who seq (-1) x.stale)
  have hxy : (xL c who seq x.held x.stale).set 8 (.int .i64 (-1)) = xL c who seq (-1) x.stale := rfl
  have T2 : Hid (TF (tapeL (.slice oa n oc) t2) false) := by have := tf oa n oc t2; rwa [h6] at this
  rw [h2] at hta
  have HLD := Lib.hid (fun w' (f : Fr [] w w') => rload_any w' c who seq oa n oc { x with held := -1 } t2 (Y.at_ c 11 p 0) hn (by omega) l hl (hO.fr f))
  rw [hr] at HLD
  dsimp only at HLD
  clear hr
  obtain ⟨nm, hnm, hnm2⟩ := nameV_wrap p
  rw [hnm2] at h2 HST
  clear hnm2 hta
  generalize Y.at_ c 11 p 0 = a11 at *
  generalize Y.at_ c 3 who 0 = a3 at *
  rw [h2] at HST
  clear h2
  rw [h7, h8] at HLD
  clear h7 h8
  have hS := ((((Sep.nil (Fr.refl [] w)).new 34 (xL c who seq x.held x.stale)).new 47 (tapeL (.slice oa n oc) t)).new 34 zView).new 47 zTape
  simp only [World.size_alloc] at hS
  unfold zView zTape at hS
  have HS := Lib.hid hS; clear hS
  have XL := Lib.hid (xf c who seq x.held x.stale)
  have TL := Lib.hid (tf oa n oc t)
  have XL : Hid (XF (xL c who seq x.held x.stale) (cfgL c) seq x.held who c.b false) := by have := XL.out; rw [h1] at this ⊢; exact this
  have X3 := Lib.hid (xf c who seq r.x.held r.x.stale)
  have T3 := Lib.hid (tf oa n oc r.t)
  have hx3 : (xL c who seq r.x.held r.x.stale).set 8 (.int .i64 p) = xL c who seq p r.x.stale := rfl
  have X4 := Lib.hid (xf c who seq p r.x.stale)
  clear h1 hO h6 h3 h5
  generalize xL c who seq r.x.held r.x.stale = xl3 at *
  generalize xL c who seq p r.x.stale = xl4 at *
  generalize tapeL (.slice oa n oc) r.t = tl3 at *
  generalize xL c who seq (-1) x.stale = xly at *
  generalize tapeL (.slice oa n oc) t2 = tl2 at *
  generalize xL c who seq x.held x.stale = xl at *
  generalize tapeL (.slice oa n oc) t = tl at *
  generalize cfgL c = cl at *
  have hs2 := HS.out
  have hSv := HS.out.blk 3 rfl
  have v1 := (hSv.cell 1).trans XL.out.b
  have v6 := (hSv.cell 6).trans XL.out.who
  have v8 := (hSv.cell 8).trans XL.out.held
  have v9 := (hSv.cell 9).trans XL.out.stale
  have v8f := hSv.froz 8
  have vl := hSv.lt
  clear hSv
  go_enter Try.func97, Try.ntmps97
  go_wp2_with fail
  have hmv := (HS.out.blk 3 rfl).drew
  have hmt := (HS.out.blk 2 rfl).drew
  have hlx := XL.out.len
  have hlt := TL.out.len
  have hmc := XL.out.range (fp := []) hmv (by simp)
  have HS := Lib.hid HS.out.drew
  refine wp_region_fr [(1, [0, 1, 2, 3, 4, 6, 7, 8, 9]), (2, [5]), (3, [10]), (3, [11])] [] (by kernel_rfl) (by kernel_rfl) ?_
  simp only [theOps, nthOp, List.map_cons, List.map_nil, Array.getD_eq_getD_getElem?, List.getElem?_toArray, List.getElem?_cons_succ, List.getElem?_cons_zero, Option.getD_some]
  refine wpSegs_soft ?_
  refine wpQuiet_load_mid 47 _ (w.heap.size + 1) 0 tl _ rfl rfl rfl (rangeAt_after hmt (by simp)) Try.underlying47 rfl (by rw [hlt]; kernel_rfl) ?_
  simp only [Act.put, List.setIfInBounds_toArray, List.set_cons_zero, List.set_cons_succ]
  iterate 1 (first | go_big_quiet_step (fail) | quiet_step (fail))
  refine wpQuiet_load_mid 24 _ w.heap.size 0 cl _ rfl rfl rfl hmc Try.underlying24 rfl (by rw [hsz6]; kernel_rfl) ?_
  simp only [Act.put, List.setIfInBounds_toArray, List.set_cons_zero, List.set_cons_succ]
  repeat (first | go_big_quiet_step (fail) | quiet_step (fail))
  refine wpQuiet_nil ?_
  refine wpSegs_keep ?_
  go_wp2_with fail
  refine (HA3.out _).mono ?_
  rintro e w2 ⟨rfl, hf⟩
  have HF := Lib.hid hf
  have HS := Lib.hid (HS.out.fr0 hf); clear hf
  go_wp2_with fail
  refine ⟨⟨⟨_, (by exact HF.out)⟩, rfl⟩, ?_⟩
  refine wpSegs_hard ?_
  go_wp2_with fail
  try rw [hnm]
  refine (HST.out _ HS.out.fr).mono ?_
  rintro e w3 ⟨rfl, hf⟩
  have HS := Lib.hid (HS.out.fr0 hf); clear hf
  go_wp2_with fail
  refine wpSegs_hard ?_
  refine wpList_store_sep HS.out 2 rfl tl2 47 _ _ rfl rfl rfl rfl (by rw [T2.out.len, hlt]) (by rw [T2.out.len]; kernel_rfl) T2.out.one (fun wC hC fC => ?_)
  have HS := Lib.hid hC; clear hC fC
  go_wp2_with fail
  repeat ((first | refine wpSegs_soft ?_ | refine wpSegs_pure ?_ | refine wpSegs_here ?_); (repeat (first | go_big_quiet_step (fail) | quiet_step (fail))); refine wpQuiet_nil ?_)
  refine wpSegs_done ?_
  clear v1 v6 v8 v9 v8f vl hmv hmt hlx hlt hmc hs2
  have TL := T2
  have n8 := ((HS.out.blk 2 rfl).cell 8).trans TL.out.need
  have nl := (HS.out.blk 2 rfl).lt
  have hSv := HS.out.blk 3 rfl
  have v1 := (hSv.cell 1).trans XL.out.b
  have v6 := (hSv.cell 6).trans XL.out.who
  have v8 := (hSv.cell 8).trans XL.out.held
  have v9 := (hSv.cell 9).trans XL.out.stale
  have v8f := hSv.froz 8
  have vl := hSv.lt
  clear hSv
  have hS := HS.out.set 3 rfl 8 (.int .i64 (-1))
  simp only [List.set_cons_zero, List.set_cons_succ] at hS
  rw [hxy] at hS
  have HS := Lib.hid hS; clear hS
  go_wp2_with fail
  generalize World.setCell _ _ _ = wq at HS ⊢
  clear v1 v6 v8 v9 v8f vl n8 nl
  have XL := XY
  have hmv := (HS.out.blk 3 rfl).drew
  have hmt := (HS.out.blk 2 rfl).drew
  have hlx := XL.out.len
  have hlt := TL.out.len
  have hmc := XL.out.range (fp := []) hmv (by simp)
  have HS := Lib.hid HS.out.drew
  refine wp_region_fr [(1, [0, 1, 2, 3, 4]), (2, [5]), (3, [6]), (0, [7, 8, 9, 10, 11]), (3, [12]), (3, [13]), (0, [14, 15])] [] (by kernel_rfl) (by kernel_rfl) ?_
  simp only [theOps, nthOp, List.map_cons, List.map_nil, Array.getD_eq_getD_getElem?, List.getElem?_toArray, List.getElem?_cons_succ, List.getElem?_cons_zero, Option.getD_some]
  refine wpSegs_soft ?_
  refine wpQuiet_load_mid 34 _ w.heap.size 0 xly _ rfl rfl rfl (rangeAt_after hmv (by simp)) Try.underlying34 rfl (by rw [hlx]; kernel_rfl) ?_
  simp only [Act.put, List.setIfInBounds_toArray, List.set_cons_zero, List.set_cons_succ]
  refine wpQuiet_load_mid 47 _ (w.heap.size + 1) 0 tl2 _ rfl rfl rfl (rangeAt_after hmt (by simp)) Try.underlying47 rfl (by rw [hlt]; kernel_rfl) ?_
  simp only [Act.put, List.setIfInBounds_toArray, List.set_cons_zero, List.set_cons_succ]
  iterate 1 (first | go_big_quiet_step (fail) | quiet_step (fail))
  refine wpQuiet_load_mid 24 _ w.heap.size 0 cl _ rfl rfl rfl hmc Try.underlying24 rfl (by rw [hsz6]; kernel_rfl) ?_
  simp only [Act.put, List.setIfInBounds_toArray, List.set_cons_zero, List.set_cons_succ]
  repeat (first | go_big_quiet_step (fail) | quiet_step (fail))
  refine wpQuiet_nil ?_
  refine wpSegs_keep ?_
  go_wp2_with fail
  refine (HA11.out _).mono ?_
  rintro e w4 ⟨rfl, hf⟩
  have HF := Lib.hid hf
  have HS := Lib.hid (HS.out.fr0 hf); clear hf
  go_wp2_with fail
  refine ⟨⟨⟨_, (by exact HF.out)⟩, rfl⟩, ?_⟩
  refine wpSegs_hard ?_
  go_wp2_with fail
  refine (HLD.out _ HS.out.fr).mono ?_
  rintro e w5 ⟨rfl, hf⟩
  have HS := Lib.hid (HS.out.fr0 hf); clear hf
  go_wp2_with fail
  repeat ((first | refine wpSegs_soft ?_ | refine wpSegs_pure ?_ | refine wpSegs_here ?_); (repeat (first | go_big_quiet_step (fail) | quiet_step (fail))); refine wpQuiet_nil ?_)
  refine wpSegs_hard ?_
  refine wpList_store_sep HS.out 3 rfl xl3 34 _ _ rfl rfl rfl rfl (by rw [X3.out.len, hlx]) (by rw [X3.out.len]; kernel_rfl) X3.out.one (fun wC hC fC => ?_)
  have HC := Lib.hid hC; clear hC fC
  go_wp2_with fail
  repeat ((first | refine wpSegs_soft ?_ | refine wpSegs_pure ?_ | refine wpSegs_here ?_); (repeat (first | go_big_quiet_step (fail) | quiet_step (fail))); refine wpQuiet_nil ?_)
  refine wpSegs_hard ?_
  refine wpList_store_sep HC.out 2 rfl tl3 47 _ _ rfl rfl rfl rfl (by rw [T3.out.len, hlt]) (by rw [T3.out.len]; kernel_rfl) T3.out.one (fun wD hD fD => ?_)
  have HS := Lib.hid hD; clear hD fD HC
  go_wp2_with fail
  repeat ((first | refine wpSegs_soft ?_ | refine wpSegs_pure ?_ | refine wpSegs_here ?_); (repeat (first | go_big_quiet_step (fail) | quiet_step (fail))); refine wpQuiet_nil ?_)
  refine wpSegs_done ?_
  clear hmv hmt hlx hlt hmc
  have XL := X3
  have TL := T3
  have v8f := (HS.out.blk 3 rfl).froz 8
  have v8 := ((HS.out.blk 3 rfl).cell 8).trans X3.out.held
  have vl := (HS.out.blk 3 rfl).lt
  have hS := HS.out.set 3 rfl 8 (.int .i64 p)
  simp only [List.set_cons_zero, List.set_cons_succ] at hS
  rw [hx3] at hS
  have HS := Lib.hid hS; clear hS
  go_wp2_with fail
  generalize World.setCell _ _ _ = wq2 at HS ⊢
  have XL := X4
  have hmv := (HS.out.blk 3 rfl).drew
  have hmt := (HS.out.blk 2 rfl).drew
  have hlx : (xl4).length = zView.length := XL.out.len
  have hlt : (tl3).length = zTape.length := TL.out.len
  have hox := XL.out.one
  have hot := TL.out.one
  have HS := Lib.hid HS.out.drew
  refine wp_region_fr [(1, [0, 1]), (0, [2]), (2, [3]), (3, [4]), (0, [5])] [w.heap.size + 1 + 1] (by kernel_rfl) (by kernel_rfl) ?_
  simp only [theOps, nthOp, List.map_cons, List.map_nil, Array.getD_eq_getD_getElem?, List.getElem?_toArray, List.getElem?_cons_succ, List.getElem?_cons_zero, Option.getD_some]
  refine wpSegs_soft ?_
  refine wpQuiet_load_mid 34 _ w.heap.size 0 xl4 _ rfl rfl rfl (rangeAt_after hmv (by simp <;> omega)) Try.underlying34 rfl (by rw [hlx]; kernel_rfl) ?_
  simp only [Act.put, List.setIfInBounds_toArray, List.set_cons_zero, List.set_cons_succ]
  refine wpQuiet_load_mid 47 _ (w.heap.size + 1) 0 tl3 _ rfl rfl rfl (rangeAt_after hmt (by simp <;> omega)) Try.underlying47 rfl (by rw [hlt]; kernel_rfl) ?_
  simp only [Act.put, List.setIfInBounds_toArray, List.set_cons_zero, List.set_cons_succ]
  refine wpQuiet_nil ?_
  repeat ((first | refine wpSegs_soft ?_ | refine wpSegs_pure ?_ | refine wpSegs_here ?_); (repeat (first | go_big_quiet_step (fail) | quiet_step (fail))); refine wpQuiet_nil ?_)
  refine wpSegs_keep ?_
  refine wpList_store_sep HS.out 1 rfl xl4 34 _ _ rfl rfl rfl rfl hlx (by rw [hlx]; kernel_rfl) hox (fun wC hC fC => ?_)
  have HC := Lib.hid hC; have HF := Lib.hid fC
  clear hC fC
  go_wp2_with fail
  refine ⟨⟨⟨_, (by exact HF.out)⟩, rfl⟩, ?_⟩
  refine wpSegs_hard ?_
  refine wpList_store_sep HC.out 0 rfl tl3 47 _ _ rfl rfl rfl rfl hlt (by rw [hlt]; kernel_rfl) hot (fun wD hD _ => ?_)
  have HDD := Lib.hid hD; clear hD
  go_wp2_with fail
  repeat ((first | refine wpSegs_soft ?_ | refine wpSegs_pure ?_ | refine wpSegs_here ?_); (repeat (first | go_big_quiet_step (fail) | quiet_step (fail))); refine wpQuiet_nil ?_)
  refine wpSegs_done ?_
  go_wp2_with fail
  exact bodyPost_ret (v := .tuple #[.agg (xl4).toArray, .agg (tl3).toArray, .int .i64 1]) (res_cct Try.results97 rfl rfl rfl (HDD.out.blk 1 rfl).range Try.underlying34 rfl (by rw [hlx]; kernel_rfl) (HDD.out.blk 0 rfl).range Try.underlying47 rfl (by rw [hlt]; kernel_rfl)) rfl ⟨rfl, HDD.out.fr⟩
set_option maxRecDepth 100000 in
set_option maxHeartbeats 16000000 in
theorem rlive_dead (w : World) (c : Cfg) (hok : Ok c) (who seq : Int) (oa : Option Addr) (n oc : Nat) (x : X) (t : Tp) (p : Int) (hn : n ≤ 100000) (ht : t.at_ ≤ 100000) (l : List O3) (hl : l.length = n) (hO : ArgE enO 3 w (.slice oa n oc) l) (h1 : x.stale = false) (h3 : 0 ≤ p ∧ p < c.b) (h5 : ¬ x.held = p) (t2 : Tp) (h2 : t.step n ⟨1, Y.at_ c 3 who 0, 0, 0, nameOf p, 0⟩ = t2) (h6 : t2.need = false) (r : Rd) (hr : rload seq l { x with held := -1 } t2 (Y.at_ c 11 p 0) = r) (h7 : r.s = 1) (h8 : ¬ r.val = 1) :
    Calls Try.prog 97 #[.agg (xL c who seq x.held x.stale).toArray, .agg (tapeL (.slice oa n oc) t).toArray, .int .i64 p] w fun e w' => e = .returned (.tuple #[.agg (xL c who seq r.x.held r.x.stale).toArray, .agg (tapeL (.slice oa n oc) r.t).toArray, .int .i64 3]) ∧ Fr [] w w' := by
  have hsz6 : (cfgL c).length = 6 := rfl
  have HA3 : Hid (∀ w, Calls Try.prog 94 #[.agg (cfgL c).toArray, .int .i64 3, .int .i64 who, .int .i64 0] w fun e w' => e = .returned (.int .i64 (Y.at_ c 3 who 0)) ∧ Fr [] w w') := fun w => rat_any w c hok 3 who 0
  have HA11 : Hid (∀ w, Calls Try.prog 94 #[.agg (cfgL c).toArray, .int .i64 11, .int .i64 p, .int .i64 0] w fun e w' => e = .returned (.int .i64 (Y.at_ c 11 p 0)) ∧ Fr [] w w') := fun w => rat_any w c hok 11 p 0
  have HST := Lib.hid (fun w' (f : Fr [] w w') => store_any w' oa n oc t (Y.at_ c 3 who 0) (nameOf p) 0 hn (by omega) l hl (hO.fr f))
  have g3 : decide (p < 0) = false := by simp; omega
  have g4 : decide (p ≥ c.b) = false := by simp; omega
  have g5 : (x.held == p) = false := by simpa using h5
  have hta := step_at n t ⟨1, Y.at_ c 3 who 0, 0, 0, nameOf p, 0⟩
  have XY := Lib.hid (xf c who seq (-1) x.stale)
  have hxy : (xL c who seq x.held x.stale).set 8 (.int .i64 (-1)) = xL c who seq (-1) x.stale := rfl
  have T2 : Hid (TF (tapeL (.slice oa n oc) t2) false) := by have := tf oa n oc t2; rwa [h6] at this
  rw [h2] at hta
  have HLD := Lib.hid (fun w' (f : Fr [] w w') => rload_any w' c who seq oa n oc { x with held := -1 } t2 (Y.at_ c 11 p 0) hn (by omega) l hl (hO.fr f))
  rw [hr] at HLD
  dsimp only at HLD
  clear hr
  obtain ⟨nm, hnm, hnm2⟩ := nameV_wrap p
  rw [hnm2] at h2 HST
  clear hnm2 hta
  generalize Y.at_ c 11 p 0 = a11 at *
  generalize Y.at_ c 3 who 0 = a3 at *
  rw [h2] at HST
  clear h2
  rw [h7] at HLD
  have g8 : (r.val != 1) = true := by simpa using h8
  clear h7 h8
  have hS := ((((Sep.nil (Fr.refl [] w)).new 34 (xL c who seq x.held x.stale)).new 47 (tapeL (.slice oa n oc) t)).new 34 zView).new 47 zTape
  simp only [World.size_alloc] at hS
  unfold zView zTape at hS
  have HS := Lib.hid hS; clear hS
  have XL := Lib.hid (xf c who seq x.held x.stale)
  have TL := Lib.hid (tf oa n oc t)
  have XL : Hid (XF (xL c who seq x.held x.stale) (cfgL c) seq x.held who c.b false) := by have := XL.out; rw [h1] at this ⊢; exact this
  have X3 := Lib.hid (xf c who seq r.x.held r.x.stale)
  have T3 := Lib.hid (tf oa n oc r.t)
  have hx3 : (xL c who seq r.x.held r.x.stale).set 8 (.int .i64 p) = xL c who seq p r.x.stale := rfl
  have X4 := Lib.hid (xf c who seq p r.x.stale)
  clear h1 hO h6 h3 h5
  generalize xL c who seq r.x.held r.x.stale = xl3 at *
  generalize xL c who seq p r.x.stale = xl4 at *
  generalize tapeL (.slice oa n oc) r.t = tl3 at *
  generalize xL c who seq (-1) x.stale = xly at *
  generalize tapeL (.slice oa n oc) t2 = tl2 at *
  generalize xL c who seq x.held x.stale = xl at *
  generalize tapeL (.slice oa n oc) t = tl at *
  generalize cfgL c = cl at *
  have hs2 := HS.out
  have hSv := HS.out.blk 3 rfl
  have v1 := (hSv.cell 1).trans XL.out.b
  have v6 := (hSv.cell 6).trans XL.out.who
  have v8 := (hSv.cell 8).trans XL.out.held
  have v9 := (hSv.cell 9).trans XL.out.stale
  have v8f := hSv.froz 8
  have vl := hSv.lt
  clear hSv
  go_enter Try.func97, Try.ntmps97
  go_wp2_with fail
  have hmv := (HS.out.blk 3 rfl).drew
  have hmt := (HS.out.blk 2 rfl).drew
  have hlx := XL.out.len
  have hlt := TL.out.len
  have hmc := XL.out.range (fp := []) hmv (by simp)
  have HS := Lib.hid HS.out.drew
  refine wp_region_fr [(1, [0, 1, 2, 3, 4, 6, 7, 8, 9]), (2, [5]), (3, [10]), (3, [11])] [] (by kernel_rfl) (by kernel_rfl) ?_
  simp only [theOps, nthOp, List.map_cons, List.map_nil, Array.getD_eq_getD_getElem?, List.getElem?_toArray, List.getElem?_cons_succ, List.getElem?_cons_zero, Option.getD_some]
  refine wpSegs_soft ?_
  refine wpQuiet_load_mid 47 _ (w.heap.size + 1) 0 tl _ rfl rfl rfl (rangeAt_after hmt (by simp)) Try.underlying47 rfl (by rw [hlt]; kernel_rfl) ?_
  simp only [Act.put, List.setIfInBounds_toArray, List.set_cons_zero, List.set_cons_succ]
  iterate 1 (first | go_big_quiet_step (fail) | quiet_step (fail))
  refine wpQuiet_load_mid 24 _ w.heap.size 0 cl _ rfl rfl rfl hmc Try.underlying24 rfl (by rw [hsz6]; kernel_rfl) ?_
  simp only [Act.put, List.setIfInBounds_toArray, List.set_cons_zero, List.set_cons_succ]
  repeat (first | go_big_quiet_step (fail) | quiet_step (fail))
  refine wpQuiet_nil ?_
  refine wpSegs_keep ?_
  go_wp2_with fail
  refine (HA3.out _).mono ?_
  rintro e w2 ⟨rfl, hf⟩
  have HF := Lib.hid hf
  have HS := Lib.hid (HS.out.fr0 hf); clear hf
  go_wp2_with fail
  refine ⟨⟨⟨_, (by exact HF.out)⟩, rfl⟩, ?_⟩
  refine wpSegs_hard ?_
  go_wp2_with fail
  try rw [hnm]
  refine (HST.out _ HS.out.fr).mono ?_
  rintro e w3 ⟨rfl, hf⟩
  have HS := Lib.hid (HS.out.fr0 hf); clear hf
  go_wp2_with fail
  refine wpSegs_hard ?_
  refine wpList_store_sep HS.out 2 rfl tl2 47 _ _ rfl rfl rfl rfl (by rw [T2.out.len, hlt]) (by rw [T2.out.len]; kernel_rfl) T2.out.one (fun wC hC fC => ?_)
  have HS := Lib.hid hC; clear hC fC
  go_wp2_with fail
  repeat ((first | refine wpSegs_soft ?_ | refine wpSegs_pure ?_ | refine wpSegs_here ?_); (repeat (first | go_big_quiet_step (fail) | quiet_step (fail))); refine wpQuiet_nil ?_)
  refine wpSegs_done ?_
  clear v1 v6 v8 v9 v8f vl hmv hmt hlx hlt hmc hs2
  have TL := T2
  have n8 := ((HS.out.blk 2 rfl).cell 8).trans TL.out.need
  have nl := (HS.out.blk 2 rfl).lt
  have hSv := HS.out.blk 3 rfl
  have v1 := (hSv.cell 1).trans XL.out.b
  have v6 := (hSv.cell 6).trans XL.out.who
  have v8 := (hSv.cell 8).trans XL.out.held
  have v9 := (hSv.cell 9).trans XL.out.stale
  have v8f := hSv.froz 8
  have vl := hSv.lt
  clear hSv
  have hS := HS.out.set 3 rfl 8 (.int .i64 (-1))
  simp only [List.set_cons_zero, List.set_cons_succ] at hS
  rw [hxy] at hS
  have HS := Lib.hid hS; clear hS
  go_wp2_with fail
  generalize World.setCell _ _ _ = wq at HS ⊢
  clear v1 v6 v8 v9 v8f vl n8 nl
  have XL := XY
  have hmv := (HS.out.blk 3 rfl).drew
  have hmt := (HS.out.blk 2 rfl).drew
  have hlx := XL.out.len
  have hlt := TL.out.len
  have hmc := XL.out.range (fp := []) hmv (by simp)
  have HS := Lib.hid HS.out.drew
  refine wp_region_fr [(1, [0, 1, 2, 3, 4]), (2, [5]), (3, [6]), (0, [7, 8, 9, 10, 11]), (3, [12]), (3, [13]), (0, [14, 15])] [] (by kernel_rfl) (by kernel_rfl) ?_
  simp only [theOps, nthOp, List.map_cons, List.map_nil, Array.getD_eq_getD_getElem?, List.getElem?_toArray, List.getElem?_cons_succ, List.getElem?_cons_zero, Option.getD_some]
  refine wpSegs_soft ?_
  refine wpQuiet_load_mid 34 _ w.heap.size 0 xly _ rfl rfl rfl (rangeAt_after hmv (by simp)) Try.underlying34 rfl (by rw [hlx]; kernel_rfl) ?_
  simp only [Act.put, List.setIfInBounds_toArray, List.set_cons_zero, List.set_cons_succ]
  refine wpQuiet_load_mid 47 _ (w.heap.size + 1) 0 tl2 _ rfl rfl rfl (rangeAt_after hmt (by simp)) Try.underlying47 rfl (by rw [hlt]; kernel_rfl) ?_
  simp only [Act.put, List.setIfInBounds_toArray, List.set_cons_zero, List.set_cons_succ]
  iterate 1 (first | go_big_quiet_step (fail) | quiet_step (fail))
  refine wpQuiet_load_mid 24 _ w.heap.size 0 cl _ rfl rfl rfl hmc Try.underlying24 rfl (by rw [hsz6]; kernel_rfl) ?_
  simp only [Act.put, List.setIfInBounds_toArray, List.set_cons_zero, List.set_cons_succ]
  repeat (first | go_big_quiet_step (fail) | quiet_step (fail))
  refine wpQuiet_nil ?_
  refine wpSegs_keep ?_
  go_wp2_with fail
  refine (HA11.out _).mono ?_
  rintro e w4 ⟨rfl, hf⟩
  have HF := Lib.hid hf
  have HS := Lib.hid (HS.out.fr0 hf); clear hf
  go_wp2_with fail
  refine ⟨⟨⟨_, (by exact HF.out)⟩, rfl⟩, ?_⟩
  refine wpSegs_hard ?_
  go_wp2_with fail
  refine (HLD.out _ HS.out.fr).mono ?_
  rintro e w5 ⟨rfl, hf⟩
  have HS := Lib.hid (HS.out.fr0 hf); clear hf
  go_wp2_with fail
  repeat ((first | refine wpSegs_soft ?_ | refine wpSegs_pure ?_ | refine wpSegs_here ?_); (repeat (first | go_big_quiet_step (fail) | quiet_step (fail))); refine wpQuiet_nil ?_)
  refine wpSegs_hard ?_
  refine wpList_store_sep HS.out 3 rfl xl3 34 _ _ rfl rfl rfl rfl (by rw [X3.out.len, hlx]) (by rw [X3.out.len]; kernel_rfl) X3.out.one (fun wC hC fC => ?_)
  have HC := Lib.hid hC; clear hC fC
  go_wp2_with fail
  repeat ((first | refine wpSegs_soft ?_ | refine wpSegs_pure ?_ | refine wpSegs_here ?_); (repeat (first | go_big_quiet_step (fail) | quiet_step (fail))); refine wpQuiet_nil ?_)
  refine wpSegs_hard ?_
  refine wpList_store_sep HC.out 2 rfl tl3 47 _ _ rfl rfl rfl rfl (by rw [T3.out.len, hlt]) (by rw [T3.out.len]; kernel_rfl) T3.out.one (fun wD hD fD => ?_)
  have HS := Lib.hid hD; clear hD fD HC
  go_wp2_with fail
  repeat ((first | refine wpSegs_soft ?_ | refine wpSegs_pure ?_ | refine wpSegs_here ?_); (repeat (first | go_big_quiet_step (fail) | quiet_step (fail))); refine wpQuiet_nil ?_)
  refine wpSegs_done ?_
  clear hmv hmt hlx hlt hmc
  have XL := X3
  have TL := T3
  go_wp2_with fail
  have hmv := (HS.out.blk 3 rfl).drew
  have hmt := (HS.out.blk 2 rfl).drew
  have hlx : (xl3).length = zView.length := XL.out.len
  have hlt : (tl3).length = zTape.length := TL.out.len
  have hox := XL.out.one
  have hot := TL.out.one
  have HS := Lib.hid HS.out.drew
  refine wp_region_fr [(1, [0, 1]), (2, [2]), (3, [3]), (0, [4])] [w.heap.size + 1 + 1] (by kernel_rfl) (by kernel_rfl) ?_
  simp only [theOps, nthOp, List.map_cons, List.map_nil, Array.getD_eq_getD_getElem?, List.getElem?_toArray, List.getElem?_cons_succ, List.getElem?_cons_zero, Option.getD_some]
  refine wpSegs_soft ?_
  refine wpQuiet_load_mid 34 _ w.heap.size 0 xl3 _ rfl rfl rfl (rangeAt_after hmv (by simp <;> omega)) Try.underlying34 rfl (by rw [hlx]; kernel_rfl) ?_
  simp only [Act.put, List.setIfInBounds_toArray, List.set_cons_zero, List.set_cons_succ]
  refine wpQuiet_load_mid 47 _ (w.heap.size + 1) 0 tl3 _ rfl rfl rfl (rangeAt_after hmt (by simp <;> omega)) Try.underlying47 rfl (by rw [hlt]; kernel_rfl) ?_
  simp only [Act.put, List.setIfInBounds_toArray, List.set_cons_zero, List.set_cons_succ]
  refine wpQuiet_nil ?_
  repeat ((first | refine wpSegs_soft ?_ | refine wpSegs_pure ?_ | refine wpSegs_here ?_); (repeat (first | go_big_quiet_step (fail) | quiet_step (fail))); refine wpQuiet_nil ?_)
  refine wpSegs_keep ?_
  refine wpList_store_sep HS.out 1 rfl xl3 34 _ _ rfl rfl rfl rfl hlx (by rw [hlx]; kernel_rfl) hox (fun wC hC fC => ?_)
  have HC := Lib.hid hC; have HF := Lib.hid fC
  clear hC fC
  go_wp2_with fail
  refine ⟨⟨⟨_, (by exact HF.out)⟩, rfl⟩, ?_⟩
  refine wpSegs_hard ?_
  refine wpList_store_sep HC.out 0 rfl tl3 47 _ _ rfl rfl rfl rfl hlt (by rw [hlt]; kernel_rfl) hot (fun wD hD _ => ?_)
  have HDD := Lib.hid hD; clear hD
  go_wp2_with fail
  repeat ((first | refine wpSegs_soft ?_ | refine wpSegs_pure ?_ | refine wpSegs_here ?_); (repeat (first | go_big_quiet_step (fail) | quiet_step (fail))); refine wpQuiet_nil ?_)
  refine wpSegs_done ?_
  go_wp2_with fail
  exact bodyPost_ret (v := .tuple #[.agg (xl3).toArray, .agg (tl3).toArray, .int .i64 3]) (res_cct Try.results97 rfl rfl rfl (HDD.out.blk 1 rfl).range Try.underlying34 rfl (by rw [hlx]; kernel_rfl) (HDD.out.blk 0 rfl).range Try.underlying47 rfl (by rw [hlt]; kernel_rfl)) rfl ⟨rfl, HDD.out.fr⟩
set_option maxRecDepth 100000 in
set_option maxHeartbeats 16000000 in
theorem rlive_else (w : World) (c : Cfg) (hok : Ok c) (who seq : Int) (oa : Option Addr) (n oc : Nat) (x : X) (t : Tp) (p : Int) (hn : n ≤ 100000) (ht : t.at_ ≤ 100000) (l : List O3) (hl : l.length = n) (hO : ArgE enO 3 w (.slice oa n oc) l) (h1 : x.stale = false) (h3 : 0 ≤ p ∧ p < c.b) (h5 : ¬ x.held = p) (t2 : Tp) (h2 : t.step n ⟨1, Y.at_ c 3 who 0, 0, 0, nameOf p, 0⟩ = t2) (h6 : t2.need = false) (r : Rd) (hr : rload seq l { x with held := -1 } t2 (Y.at_ c 11 p 0) = r) (h7 : ¬ r.s = 1) :
    Calls Try.prog 97 #[.agg (xL c who seq x.held x.stale).toArray, .agg (tapeL (.slice oa n oc) t).toArray, .int .i64 p] w fun e w' => e = .returned (.tuple #[.agg (xL c who seq r.x.held r.x.stale).toArray, .agg (tapeL (.slice oa n oc) r.t).toArray, .int .i64 r.s]) ∧ Fr [] w w' := by
  have hsz6 : (cfgL c).length = 6 := rfl
  have HA3 : Hid (∀ w, Calls Try.prog 94 #[.agg (cfgL c).toArray, .int .i64 3, .int .i64 who, .int .i64 0] w fun e w' => e = .returned (.int .i64 (Y.at_ c 3 who 0)) ∧ Fr [] w w') := fun w => rat_any w c hok 3 who 0
  have HA11 : Hid (∀ w, Calls Try.prog 94 #[.agg (cfgL c).toArray, .int .i64 11, .int .i64 p, .int .i64 0] w fun e w' => e = .returned (.int .i64 (Y.at_ c 11 p 0)) ∧ Fr [] w w') := fun w => rat_any w c hok 11 p 0
  have HST := Lib.hid (fun w' (f : Fr [] w w') => store_any w' oa n oc t (Y.at_ c 3 who 0) (nameOf p) 0 hn (by omega) l hl (hO.fr f))
  have g3 : decide (p < 0) = false := by simp; omega
  have g4 : decide (p ≥ c.b) = false := by simp; omega
  have g5 : (x.held == p) = false := by simpa using h5
  have hta := step_at n t ⟨1, Y.at_ c 3 who 0, 0, 0, nameOf p, 0⟩
  have XY := Lib.hid (xf c who seq (-1) x.stale)
  have hxy : (xL c who seq x.held x.stale).set 8 (.int .i64 (-1)) = xL c who seq (-1) x.stale := rfl
  have T2 : Hid (TF (tapeL (.slice oa n oc) t2) false) := by have := tf oa n oc t2; rwa [h6] at this
  rw [h2] at hta
  have HLD := Lib.hid (fun w' (f : Fr [] w w') => rload_any w' c who seq oa n oc { x with held := -1 } t2 (Y.at_ c 11 p 0) hn (by omega) l hl (hO.fr f))
  rw [hr] at HLD
  dsimp only at HLD
  clear hr
  obtain ⟨nm, hnm, hnm2⟩ := nameV_wrap p
  rw [hnm2] at h2 HST
  clear hnm2 hta
  generalize Y.at_ c 11 p 0 = a11 at *
  generalize Y.at_ c 3 who 0 = a3 at *
  rw [h2] at HST
  clear h2
  have g7 : (r.s == 1) = false := by simpa using h7
  clear h7
  have hS := ((((Sep.nil (Fr.refl [] w)).new 34 (xL c who seq x.held x.stale)).new 47 (tapeL (.slice oa n oc) t)).new 34 zView).new 47 zTape
  simp only [World.size_alloc] at hS
  unfold zView zTape at hS
  have HS := Lib.hid hS; clear hS
  have XL := Lib.hid (xf c who seq x.held x.stale)
  have TL := Lib.hid (tf oa n oc t)
  have XL : Hid (XF (xL c who seq x.held x.stale) (cfgL c) seq x.held who c.b false) := by have := XL.out; rw [h1] at this ⊢; exact this
  have X3 := Lib.hid (xf c who seq r.x.held r.x.stale)
  have T3 := Lib.hid (tf oa n oc r.t)
  have hx3 : (xL c who seq r.x.held r.x.stale).set 8 (.int .i64 p) = xL c who seq p r.x.stale := rfl
  have X4 := Lib.hid (xf c who seq p r.x.stale)
  clear h1 hO h6 h3 h5
  generalize xL c who seq r.x.held r.x.stale = xl3 at *
  generalize xL c who seq p r.x.stale = xl4 at *
  generalize tapeL (.slice oa n oc) r.t = tl3 at *
  generalize xL c who seq (-1) x.stale = xly at *
  generalize tapeL (.slice oa n oc) t2 = tl2 at *
  generalize xL c who seq x.held x.stale = xl at *
  generalize tapeL (.slice oa n oc) t = tl at *
  generalize cfgL c = cl at *
  have hs2 := HS.out
  have hSv := HS.out.blk 3 rfl
  have v1 := (hSv.cell 1).trans XL.out.b
  have v6 := (hSv.cell 6).trans XL.out.who
  have v8 := (hSv.cell 8).trans XL.out.held
  have v9 := (hSv.cell 9).trans XL.out.stale
  have v8f := hSv.froz 8
  have vl := hSv.lt
  clear hSv
  go_enter Try.func97, Try.ntmps97
  go_wp2_with fail
  have hmv := (HS.out.blk 3 rfl).drew
  have hmt := (HS.out.blk 2 rfl).drew
  have hlx := XL.out.len
  have hlt := TL.out.len
  have hmc := XL.out.range (fp := []) hmv (by simp)
  have HS := Lib.hid HS.out.drew
  refine wp_region_fr [(1, [0, 1, 2, 3, 4, 6, 7, 8, 9]), (2, [5]), (3, [10]), (3, [11])] [] (by kernel_rfl) (by kernel_rfl) ?_
  simp only [theOps, nthOp, List.map_cons, List.map_nil, Array.getD_eq_getD_getElem?, List.getElem?_toArray, List.getElem?_cons_succ, List.getElem?_cons_zero, Option.getD_some]
  refine wpSegs_soft ?_
  refine wpQuiet_load_mid 47 _ (w.heap.size + 1) 0 tl _ rfl rfl rfl (rangeAt_after hmt (by simp)) Try.underlying47 rfl (by rw [hlt]; kernel_rfl) ?_
  simp only [Act.put, List.setIfInBounds_toArray, List.set_cons_zero, List.set_cons_succ]
  iterate 1 (first | go_big_quiet_step (fail) | quiet_step (fail))
  refine wpQuiet_load_mid 24 _ w.heap.size 0 cl _ rfl rfl rfl hmc Try.underlying24 rfl (by rw [hsz6]; kernel_rfl) ?_
  simp only [Act.put, List.setIfInBounds_toArray, List.set_cons_zero, List.set_cons_succ]
  repeat (first | go_big_quiet_step (fail) | quiet_step (fail))
  refine wpQuiet_nil ?_
  refine wpSegs_keep ?_
  go_wp2_with fail
  refine (HA3.out _).mono ?_
  rintro e w2 ⟨rfl, hf⟩
  have HF := Lib.hid hf
  have HS := Lib.hid (HS.out.fr0 hf); clear hf
  go_wp2_with fail
  refine ⟨⟨⟨_, (by exact HF.out)⟩, rfl⟩, ?_⟩
  refine wpSegs_hard ?_
  go_wp2_with fail
  try rw [hnm]
  refine (HST.out _ HS.out.fr).mono ?_
  rintro e w3 ⟨rfl, hf⟩
  have HS := Lib.hid (HS.out.fr0 hf); clear hf
  go_wp2_with fail
  refine wpSegs_hard ?_
  refine wpList_store_sep HS.out 2 rfl tl2 47 _ _ rfl rfl rfl rfl (by rw [T2.out.len, hlt]) (by rw [T2.out.len]; kernel_rfl) T2.out.one (fun wC hC fC => ?_)
  have HS := Lib.hid hC; clear hC fC
  go_wp2_with fail
  repeat ((first | refine wpSegs_soft ?_ | refine wpSegs_pure ?_ | refine wpSegs_here ?_); (repeat (first | go_big_quiet_step (fail) | quiet_step (fail))); refine wpQuiet_nil ?_)
  refine wpSegs_done ?_
  clear v1 v6 v8 v9 v8f vl hmv hmt hlx hlt hmc hs2
  have TL := T2
  have n8 := ((HS.out.blk 2 rfl).cell 8).trans TL.out.need
  have nl := (HS.out.blk 2 rfl).lt
  have hSv := HS.out.blk 3 rfl
  have v1 := (hSv.cell 1).trans XL.out.b
  have v6 := (hSv.cell 6).trans XL.out.who
  have v8 := (hSv.cell 8).trans XL.out.held
  have v9 := (hSv.cell 9).trans XL.out.stale
  have v8f := hSv.froz 8
  have vl := hSv.lt
  clear hSv
  have hS := HS.out.set 3 rfl 8 (.int .i64 (-1))
  simp only [List.set_cons_zero, List.set_cons_succ] at hS
  rw [hxy] at hS
  have HS := Lib.hid hS; clear hS
  go_wp2_with fail
  generalize World.setCell _ _ _ = wq at HS ⊢
  clear v1 v6 v8 v9 v8f vl n8 nl
  have XL := XY
  have hmv := (HS.out.blk 3 rfl).drew
  have hmt := (HS.out.blk 2 rfl).drew
  have hlx := XL.out.len
  have hlt := TL.out.len
  have hmc := XL.out.range (fp := []) hmv (by simp)
  have HS := Lib.hid HS.out.drew
  refine wp_region_fr [(1, [0, 1, 2, 3, 4]), (2, [5]), (3, [6]), (0, [7, 8, 9, 10, 11]), (3, [12]), (3, [13]), (0, [14, 15])] [] (by kernel_rfl) (by kernel_rfl) ?_
  simp only [theOps, nthOp, List.map_cons, List.map_nil, Array.getD_eq_getD_getElem?, List.getElem?_toArray, List.getElem?_cons_succ, List.getElem?_cons_zero, Option.getD_some]
  refine wpSegs_soft ?_
  refine wpQuiet_load_mid 34 _ w.heap.size 0 xly _ rfl rfl rfl (rangeAt_after hmv (by simp)) Try.underlying34 rfl (by rw [hlx]; kernel_rfl) ?_
  simp only [Act.put, List.setIfInBounds_toArray, List.set_cons_zero, List.set_cons_succ]
  refine wpQuiet_load_mid 47 _ (w.heap.size + 1) 0 tl2 _ rfl rfl rfl (rangeAt_after hmt (by simp)) Try.underlying47 rfl (by rw [hlt]; kernel_rfl) ?_
  simp only [Act.put, List.setIfInBounds_toArray, List.set_cons_zero, List.set_cons_succ]
  iterate 1 (first | go_big_quiet_step (fail) | quiet_step (fail))
  refine wpQuiet_load_mid 24 _ w.heap.size 0 cl _ rfl rfl rfl hmc Try.underlying24 rfl (by rw [hsz6]; kernel_rfl) ?_
  simp only [Act.put, List.setIfInBounds_toArray, List.set_cons_zero, List.set_cons_succ]
  repeat (first | go_big_quiet_step (fail) | quiet_step (fail))
  refine wpQuiet_nil ?_
  refine wpSegs_keep ?_
  go_wp2_with fail
  refine (HA11.out _).mono ?_
  rintro e w4 ⟨rfl, hf⟩
  have HF := Lib.hid hf
  have HS := Lib.hid (HS.out.fr0 hf); clear hf
  go_wp2_with fail
  refine ⟨⟨⟨_, (by exact HF.out)⟩, rfl⟩, ?_⟩
  refine wpSegs_hard ?_
  go_wp2_with fail
  refine (HLD.out _ HS.out.fr).mono ?_
  rintro e w5 ⟨rfl, hf⟩
  have HS := Lib.hid (HS.out.fr0 hf); clear hf
  go_wp2_with fail
  repeat ((first | refine wpSegs_soft ?_ | refine wpSegs_pure ?_ | refine wpSegs_here ?_); (repeat (first | go_big_quiet_step (fail) | quiet_step (fail))); refine wpQuiet_nil ?_)
  refine wpSegs_hard ?_
  refine wpList_store_sep HS.out 3 rfl xl3 34 _ _ rfl rfl rfl rfl (by rw [X3.out.len, hlx]) (by rw [X3.out.len]; kernel_rfl) X3.out.one (fun wC hC fC => ?_)
  have HC := Lib.hid hC; clear hC fC
  go_wp2_with fail
  repeat ((first | refine wpSegs_soft ?_ | refine wpSegs_pure ?_ | refine wpSegs_here ?_); (repeat (first | go_big_quiet_step (fail) | quiet_step (fail))); refine wpQuiet_nil ?_)
  refine wpSegs_hard ?_
  refine wpList_store_sep HC.out 2 rfl tl3 47 _ _ rfl rfl rfl rfl (by rw [T3.out.len, hlt]) (by rw [T3.out.len]; kernel_rfl) T3.out.one (fun wD hD fD => ?_)
  have HS := Lib.hid hD; clear hD fD HC
  go_wp2_with fail
  repeat ((first | refine wpSegs_soft ?_ | refine wpSegs_pure ?_ | refine wpSegs_here ?_); (repeat (first | go_big_quiet_step (fail) | quiet_step (fail))); refine wpQuiet_nil ?_)
  refine wpSegs_done ?_
  clear hmv hmt hlx hlt hmc
  have XL := X3
  have TL := T3
  go_wp2_with fail
  have hmv := (HS.out.blk 3 rfl).drew
  have hmt := (HS.out.blk 2 rfl).drew
  have hlx : (xl3).length = zView.length := XL.out.len
  have hlt : (tl3).length = zTape.length := TL.out.len
  have hox := XL.out.one
  have hot := TL.out.one
  have HS := Lib.hid HS.out.drew
  refine wp_region_fr [(1, [0, 1]), (0, [2]), (2, [3]), (3, [4]), (0, [5])] [w.heap.size + 1 + 1] (by kernel_rfl) (by kernel_rfl) ?_
  simp only [theOps, nthOp, List.map_cons, List.map_nil, Array.getD_eq_getD_getElem?, List.getElem?_toArray, List.getElem?_cons_succ, List.getElem?_cons_zero, Option.getD_some]
  refine wpSegs_soft ?_
  refine wpQuiet_load_mid 34 _ w.heap.size 0 xl3 _ rfl rfl rfl (rangeAt_after hmv (by simp <;> omega)) Try.underlying34 rfl (by rw [hlx]; kernel_rfl) ?_
  simp only [Act.put, List.setIfInBounds_toArray, List.set_cons_zero, List.set_cons_succ]
  refine wpQuiet_load_mid 47 _ (w.heap.size + 1) 0 tl3 _ rfl rfl rfl (rangeAt_after hmt (by simp <;> omega)) Try.underlying47 rfl (by rw [hlt]; kernel_rfl) ?_
  simp only [Act.put, List.setIfInBounds_toArray, List.set_cons_zero, List.set_cons_succ]
  refine wpQuiet_nil ?_
  repeat ((first | refine wpSegs_soft ?_ | refine wpSegs_pure ?_ | refine wpSegs_here ?_); (repeat (first | go_big_quiet_step (fail) | quiet_step (fail))); refine wpQuiet_nil ?_)
  refine wpSegs_keep ?_
  refine wpList_store_sep HS.out 1 rfl xl3 34 _ _ rfl rfl rfl rfl hlx (by rw [hlx]; kernel_rfl) hox (fun wC hC fC => ?_)
  have HC := Lib.hid hC; have HF := Lib.hid fC
  clear hC fC
  go_wp2_with fail
  refine ⟨⟨⟨_, (by exact HF.out)⟩, rfl⟩, ?_⟩
  refine wpSegs_hard ?_
  refine wpList_store_sep HC.out 0 rfl tl3 47 _ _ rfl rfl rfl rfl hlt (by rw [hlt]; kernel_rfl) hot (fun wD hD _ => ?_)
  have HDD := Lib.hid hD; clear hD
  go_wp2_with fail
  repeat ((first | refine wpSegs_soft ?_ | refine wpSegs_pure ?_ | refine wpSegs_here ?_); (repeat (first | go_big_quiet_step (fail) | quiet_step (fail))); refine wpQuiet_nil ?_)
  refine wpSegs_done ?_
  go_wp2_with fail
  exact bodyPost_ret (v := .tuple #[.agg (xl3).toArray, .agg (tl3).toArray, .int .i64 r.s]) (res_cct Try.results97 rfl rfl rfl (HDD.out.blk 1 rfl).range Try.underlying34 rfl (by rw [hlx]; kernel_rfl) (HDD.out.blk 0 rfl).range Try.underlying47 rfl (by rw [hlt]; kernel_rfl)) rfl ⟨rfl, HDD.out.fr⟩
theorem rlive_any (w : World) (c : Cfg) (hok : Ok c) (who seq : Int) (oa : Option Addr) (n oc : Nat) (x : X) (t : Tp) (p : Int) (hn : n ≤ 100000) (ht : t.at_ ≤ 100000) (l : List O3) (hl : l.length = n) (hO : ArgE enO 3 w (.slice oa n oc) l) (r : Rd) (hr : r = rlive c who seq l x t p) :
    Calls Try.prog 97 #[.agg (xL c who seq x.held x.stale).toArray, .agg (tapeL (.slice oa n oc) t).toArray, .int .i64 p] w fun e w' => e = .returned (.tuple #[.agg (xL c who seq r.x.held r.x.stale).toArray, .agg (tapeL (.slice oa n oc) r.t).toArray, .int .i64 r.s]) ∧ Fr [] w w' := by
  subst hr
  unfold rlive
  by_cases h1 : x.stale = true
  · rw [if_pos h1]
    exact rlive_stale w c hok who seq oa n oc x t p hn ht l hl hO h1
  rw [if_neg h1]
  have h1 : x.stale = false := by simpa using h1
  by_cases h2 : p < 0 ∨ c.b ≤ p
  · rw [if_pos h2]
    by_cases h3 : p < 0
    · exact rlive_b1 w c hok who seq oa n oc x t p hn ht l hl hO h1 h3
    · exact rlive_b2 w c hok who seq oa n oc x t p hn ht l hl hO h1 h3 (by omega)
  rw [if_neg h2]
  have h3 : 0 ≤ p ∧ p < c.b := by omega
  by_cases h5 : x.held = p
  · rw [if_pos h5]
    exact rlive_held w c hok who seq oa n oc x t p hn ht l hl hO h1 h3 h5
  rw [if_neg h5, hl]
  generalize h2 : t.step n ⟨1, Y.at_ c 3 who 0, 0, 0, nameOf p, 0⟩ = t2
  by_cases h6 : t2.need = true
  · rw [if_pos h6]
    exact rlive_need w c hok who seq oa n oc x t p hn ht l hl hO h1 h3 h5 t2 h2 h6
  rw [if_neg h6]
  have h6 : t2.need = false := by simpa using h6
  dsimp only
  generalize hr : rload seq l ⟨-1, x.stale⟩ t2 (Y.at_ c 11 p 0) = r
  by_cases h7 : r.s = 1
  · by_cases h8 : r.val = 1
    · rw [if_neg (show ¬ (r.s = 1 ∧ r.val ≠ 1) from fun h => h.2 h8), if_pos h7]
      exact rlive_good w c hok who seq oa n oc x t p hn ht l hl hO h1 h3 h5 t2 h2 h6 r hr h7 h8
    · rw [if_pos (show r.s = 1 ∧ r.val ≠ 1 from ⟨h7, h8⟩)]
      exact rlive_dead w c hok who seq oa n oc x t p hn ht l hl hO h1 h3 h5 t2 h2 h6 r hr h7 h8
  · rw [if_neg (show ¬ (r.s = 1 ∧ r.val ≠ 1) from fun h => h7 h.1), if_neg h7]
    exact rlive_else w c hok who seq oa n oc x t p hn ht l hl hO h1 h3 h5 t2 h2 h6 r hr h7
end Go.Proofs.Ytccioehckfdjdaa
