/- The walks of the document's Word, and of the law's does (chapter 9). -/
import Derived.Test.YtccioehckfdjdaaVrw4
import Derived.Test.YtccioehckfdjdaaVmatch
set_option linter.unusedSimpArgs false
set_option linter.unusedVariables false
namespace Go.Tum.Vw
open Go.Tum.Y
theorem rlive_at (c : Cfg) (who seq : Int) (l : List O3) (x : X) (t : Tp) (b : Int) : (rlive c who seq l x t b).t.at_ ≤ t.at_ + 2 := by
  have h1 : ∀ op, (t.step l.length op).at_ ≤ t.at_ + 1 := fun op => Go.Proofs.Ytccioehckfdjdaa.step_at _ _ _
  have h2 : ∀ q x t p, t.at_ ≤ q + 1 → (rload seq l x t p).t.at_ ≤ q + 2 := fun q x t p h => by have := Go.Proofs.Ytccioehckfdjdaa.rload_at seq l x t p; omega
  have h3 := h1 ⟨1, Y.at_ c 3 who 0, 0, 0, nameOf b, 0⟩
  have h4 := h2 t.at_ { x with held := -1 } (t.step l.length ⟨1, Y.at_ c 3 who 0, 0, 0, nameOf b, 0⟩) (Y.at_ c 11 b 0) h3
  unfold rlive
  dsimp only
  repeat (first | omega | (dsimp only; omega) | split)
end Go.Tum.Vw
namespace Go.Proofs.Ytccioehckfdjdaa
open Go.RowKit Go.Tum Go.Tum.Y Go.Tum.Vw
set_option maxRecDepth 100000 in
set_option maxHeartbeats 16000000 in
theorem rword_stale (w : World) (c : Cfg) (hok : Ok c) (who seq : Int) (oa : Option Addr) (n oc : Nat) (x : X) (t : Tp) (b k : Int) (hn : n ≤ 100000) (ht : t.at_ ≤ 100000) (l : List O3) (hl : l.length = n) (hO : ArgE enO 3 w (.slice oa n oc) l) (h1 : x.stale = true) (r : Rd) (hr : r = ⟨x, t, 0, 2⟩) :
    Calls Try.prog 96 #[.agg (xL c who seq x.held x.stale).toArray, .agg (tapeL (.slice oa n oc) t).toArray, .int .i64 b, .int .i64 k] w fun e w' => e = .returned (.tuple #[.agg (xL c who seq r.x.held r.x.stale).toArray, .agg (tapeL (.slice oa n oc) r.t).toArray, .int .u64 r.val, .int .i64 r.s]) ∧ Fr [] w w' := by
  subst hr
  dsimp only
  have hS := ((((Sep.nil (Fr.refl [] w)).new 34 (xL c who seq x.held x.stale)).new 47 (tapeL (.slice oa n oc) t)).new 34 zView).new 47 zTape
  simp only [World.size_alloc] at hS
  unfold zView zTape at hS
  have HS := Lib.hid hS; clear hS
  have XL := Lib.hid (xf c who seq x.held x.stale)
  have TL := Lib.hid (tf oa n oc t)
  have XL : Hid (XF (xL c who seq x.held x.stale) (cfgL c) seq x.held who c.b true) := by have := XL.out; rw [h1] at this ⊢; exact this
  clear h1 hO
  generalize xL c who seq x.held x.stale = xl at *
  generalize tapeL (.slice oa n oc) t = tl at *
  generalize cfgL c = cl at *
  have hSv := HS.out.blk 3 rfl
  have v1 := (hSv.cell 1).trans XL.out.b
  have v6 := (hSv.cell 6).trans XL.out.who
  have v8 := (hSv.cell 8).trans XL.out.held
  have v9 := (hSv.cell 9).trans XL.out.stale
  have v8f := hSv.froz 8
  have vl := hSv.lt
  go_enter Try.func96, Try.ntmps96
  go_wp2_with fail
  have hmv := (HS.out.blk 3 rfl).drew
  have hmt := (HS.out.blk 2 rfl).drew
  have hlx : (xl).length = zView.length := XL.out.len
  have hlt : (tl).length = zTape.length := TL.out.len
  have hox := XL.out.one
  have hot := TL.out.one
  have HS := Lib.hid HS.out.drew
  refine wp_region_fr [(1, [0, 1]), (2, [2]), (3, [3]), (0, [4, 5])] [w.heap.size + 1 + 1] (by kernel_rfl) (by kernel_rfl) ?_
  simp only [theOps, nthOp, List.map_cons, List.map_nil, Array.getD_eq_getD_getElem?, List.getElem?_toArray, List.getElem?_cons_succ, List.getElem?_cons_zero, Option.getD_some]
  refine wpSegs_soft ?_
  refine wpQuiet_load_mid 34 _ w.heap.size 0 xl _ rfl rfl rfl (rangeAt_after hmv (by simp <;> omega)) Try.underlying34 rfl (by rw [hlx]; kernel_rfl) ?_
  simp only [Act.put, List.setIfInBounds_toArray, List.set_cons_zero, List.set_cons_succ]
  refine wpQuiet_load_mid 47 _ (w.heap.size + 1) 0 tl _ rfl rfl rfl (rangeAt_after hmt (by simp <;> omega)) Try.underlying47 rfl (by rw [hlt]; kernel_rfl) ?_
  simp only [Act.put, List.setIfInBounds_toArray, List.set_cons_zero, List.set_cons_succ]
  refine wpQuiet_nil ?_
  repeat ((first | refine wpSegs_soft ?_ | refine wpSegs_pure ?_ | refine wpSegs_here ?_); (repeat (first | go_big_quiet_step (fail) | quiet_step (fail))); refine wpQuiet_nil ?_)
  refine wpSegs_keep ?_
  refine wpList_store_sep HS.out 1 rfl xl 34 _ _ rfl rfl rfl rfl hlx (by rw [hlx]; kernel_rfl) hox (fun wC hC fC => ?_)
  have HC := Lib.hid hC; have HF := Lib.hid fC
  clear hC fC
  go_wp2_with fail
  refine ⟨⟨⟨_, (by exact HF.out)⟩, rfl⟩, ?_⟩
  refine wpSegs_hard ?_
  refine wpList_store_sep HC.out 0 rfl tl 47 _ _ rfl rfl rfl rfl hlt (by rw [hlt]; kernel_rfl) hot (fun wD hD _ => ?_)
  have HDD := Lib.hid hD; clear hD
  go_wp2_with fail
  repeat ((first | refine wpSegs_soft ?_ | refine wpSegs_pure ?_ | refine wpSegs_here ?_); (repeat (first | go_big_quiet_step (fail) | quiet_step (fail))); refine wpQuiet_nil ?_)
  refine wpSegs_done ?_
  go_wp2_with fail
  exact bodyPost_ret (v := .tuple #[.agg (xl).toArray, .agg (tl).toArray, .int .u64 0, .int .i64 2]) (res_cctt Try.results96 rfl rfl rfl rfl (HDD.out.blk 1 rfl).range Try.underlying34 rfl (by rw [hlx]; kernel_rfl) (HDD.out.blk 0 rfl).range Try.underlying47 rfl (by rw [hlt]; kernel_rfl)) rfl ⟨rfl, HDD.out.fr⟩
set_option maxRecDepth 100000 in
set_option maxHeartbeats 16000000 in
theorem rword_no (w : World) (c : Cfg) (hok : Ok c) (who seq : Int) (oa : Option Addr) (n oc : Nat) (x : X) (t : Tp) (b k : Int) (hn : n ≤ 100000) (ht : t.at_ ≤ 100000) (l : List O3) (hl : l.length = n) (hO : ArgE enO 3 w (.slice oa n oc) l) (h1 : x.stale = false) (h2 : Y.at_ c 16 b k < 0) (r : Rd) (hr : r = ⟨x, t, 0, 3⟩) :
    Calls Try.prog 96 #[.agg (xL c who seq x.held x.stale).toArray, .agg (tapeL (.slice oa n oc) t).toArray, .int .i64 b, .int .i64 k] w fun e w' => e = .returned (.tuple #[.agg (xL c who seq r.x.held r.x.stale).toArray, .agg (tapeL (.slice oa n oc) r.t).toArray, .int .u64 r.val, .int .i64 r.s]) ∧ Fr [] w w' := by
  subst hr
  dsimp only
  have hsz6 : (cfgL c).length = 6 := rfl
  have HA : Hid (∀ w, Calls Try.prog 94 #[.agg (cfgL c).toArray, .int .i64 16, .int .i64 b, .int .i64 k] w fun e w' => e = .returned (.int .i64 (Y.at_ c 16 b k)) ∧ Fr [] w w') := fun w => rat_any w c hok 16 b k
  have g2 : decide (Y.at_ c 16 b k < 0) = true := by simpa using h2
  generalize Y.at_ c 16 b k = av at *
  have hS := ((((Sep.nil (Fr.refl [] w)).new 34 (xL c who seq x.held x.stale)).new 47 (tapeL (.slice oa n oc) t)).new 34 zView).new 47 zTape
  simp only [World.size_alloc] at hS
  unfold zView zTape at hS
  have HS := Lib.hid hS; clear hS
  have XL := Lib.hid (xf c who seq x.held x.stale)
  have TL := Lib.hid (tf oa n oc t)
  have XL : Hid (XF (xL c who seq x.held x.stale) (cfgL c) seq x.held who c.b false) := by have := XL.out; rw [h1] at this ⊢; exact this
  clear h1 h2 hO
  generalize xL c who seq x.held x.stale = xl at *
  generalize tapeL (.slice oa n oc) t = tl at *
  generalize cfgL c = cl at *
  have hSv := HS.out.blk 3 rfl
  have v1 := (hSv.cell 1).trans XL.out.b
  have v6 := (hSv.cell 6).trans XL.out.who
  have v8 := (hSv.cell 8).trans XL.out.held
  have v9 := (hSv.cell 9).trans XL.out.stale
  have v8f := hSv.froz 8
  have vl := hSv.lt
  go_enter Try.func96, Try.ntmps96
  go_wp2_with
    (refine wpList_load_any 24 _ rfl rfl _ 0 rfl cl _ (XL.out.pre1 (HS.out.blk 3 rfl)) Try.underlying24 rfl (by rw [hsz6]; kernel_rfl) ?_)
  refine (HA.out _).mono ?_
  rintro e w1 ⟨rfl, hf⟩
  have HS := Lib.hid (HS.out.fr0 hf); clear hf v1 v6 v8 v9 v8f vl hSv
  go_wp2_with fail
  have hmv := (HS.out.blk 3 rfl).drew
  have hmt := (HS.out.blk 2 rfl).drew
  have hlx : (xl).length = zView.length := XL.out.len
  have hlt : (tl).length = zTape.length := TL.out.len
  have hox := XL.out.one
  have hot := TL.out.one
  have HS := Lib.hid HS.out.drew
  refine wp_region_fr [(1, [0, 1]), (2, [2]), (3, [3]), (0, [4, 5])] [w.heap.size + 1 + 1] (by kernel_rfl) (by kernel_rfl) ?_
  simp only [theOps, nthOp, List.map_cons, List.map_nil, Array.getD_eq_getD_getElem?, List.getElem?_toArray, List.getElem?_cons_succ, List.getElem?_cons_zero, Option.getD_some]
  refine wpSegs_soft ?_
  refine wpQuiet_load_mid 34 _ w.heap.size 0 xl _ rfl rfl rfl (rangeAt_after hmv (by simp <;> omega)) Try.underlying34 rfl (by rw [hlx]; kernel_rfl) ?_
  simp only [Act.put, List.setIfInBounds_toArray, List.set_cons_zero, List.set_cons_succ]
  refine wpQuiet_load_mid 47 _ (w.heap.size + 1) 0 tl _ rfl rfl rfl (rangeAt_after hmt (by simp <;> omega)) Try.underlying47 rfl (by rw [hlt]; kernel_rfl) ?_
  simp only [Act.put, List.setIfInBounds_toArray, List.set_cons_zero, List.set_cons_succ]
  refine wpQuiet_nil ?_
  repeat ((first | refine wpSegs_soft ?_ | refine wpSegs_pure ?_ | refine wpSegs_here ?_); (repeat (first | go_big_quiet_step (fail) | quiet_step (fail))); refine wpQuiet_nil ?_)
  refine wpSegs_keep ?_
  refine wpList_store_sep HS.out 1 rfl xl 34 _ _ rfl rfl rfl rfl hlx (by rw [hlx]; kernel_rfl) hox (fun wC hC fC => ?_)
  have HC := Lib.hid hC; have HF := Lib.hid fC
  clear hC fC
  go_wp2_with fail
  refine ⟨⟨⟨_, (by exact HF.out)⟩, rfl⟩, ?_⟩
  refine wpSegs_hard ?_
  refine wpList_store_sep HC.out 0 rfl tl 47 _ _ rfl rfl rfl rfl hlt (by rw [hlt]; kernel_rfl) hot (fun wD hD _ => ?_)
  have HDD := Lib.hid hD; clear hD
  go_wp2_with fail
  repeat ((first | refine wpSegs_soft ?_ | refine wpSegs_pure ?_ | refine wpSegs_here ?_); (repeat (first | go_big_quiet_step (fail) | quiet_step (fail))); refine wpQuiet_nil ?_)
  refine wpSegs_done ?_
  go_wp2_with fail
  exact bodyPost_ret (v := .tuple #[.agg (xl).toArray, .agg (tl).toArray, .int .u64 0, .int .i64 3]) (res_cctt Try.results96 rfl rfl rfl rfl (HDD.out.blk 1 rfl).range Try.underlying34 rfl (by rw [hlx]; kernel_rfl) (HDD.out.blk 0 rfl).range Try.underlying47 rfl (by rw [hlt]; kernel_rfl)) rfl ⟨rfl, HDD.out.fr⟩
set_option maxRecDepth 100000 in
set_option maxHeartbeats 16000000 in
theorem rword_else (w : World) (c : Cfg) (hok : Ok c) (who seq : Int) (oa : Option Addr) (n oc : Nat) (x : X) (t : Tp) (b k : Int) (hn : n ≤ 100000) (ht : t.at_ ≤ 100000) (l : List O3) (hl : l.length = n) (hO : ArgE enO 3 w (.slice oa n oc) l) (h1 : x.stale = false) (h2 : ¬ Y.at_ c 16 b k < 0) (r1 : Rd) (hr1 : rlive c who seq l x t b = r1) (h3 : ¬ r1.s = 1) (r : Rd) (hr : r = ⟨r1.x, r1.t, 0, r1.s⟩) :
    Calls Try.prog 96 #[.agg (xL c who seq x.held x.stale).toArray, .agg (tapeL (.slice oa n oc) t).toArray, .int .i64 b, .int .i64 k] w fun e w' => e = .returned (.tuple #[.agg (xL c who seq r.x.held r.x.stale).toArray, .agg (tapeL (.slice oa n oc) r.t).toArray, .int .u64 r.val, .int .i64 r.s]) ∧ Fr [] w w' := by
  subst hr
  dsimp only
  have hsz6 : (cfgL c).length = 6 := rfl
  have HA : Hid (∀ w, Calls Try.prog 94 #[.agg (cfgL c).toArray, .int .i64 16, .int .i64 b, .int .i64 k] w fun e w' => e = .returned (.int .i64 (Y.at_ c 16 b k)) ∧ Fr [] w w') := fun w => rat_any w c hok 16 b k
  have g2 : decide (Y.at_ c 16 b k < 0) = false := by simpa using h2
  have HLV := Lib.hid (fun w' (f : Fr [] w w') => rlive_any w' c hok who seq oa n oc x t b hn ht l hl (hO.fr f) r1 hr1.symm)
  have X2 := Lib.hid (xf c who seq r1.x.held r1.x.stale)
  have T2 := Lib.hid (tf oa n oc r1.t)
  have g3 : (r1.s != 1) = true := by simpa using h3
  have hS := ((((Sep.nil (Fr.refl [] w)).new 34 (xL c who seq x.held x.stale)).new 47 (tapeL (.slice oa n oc) t)).new 34 zView).new 47 zTape
  simp only [World.size_alloc] at hS
  unfold zView zTape at hS
  have HS := Lib.hid hS; clear hS
  have XL := Lib.hid (xf c who seq x.held x.stale)
  have TL := Lib.hid (tf oa n oc t)
  have XL : Hid (XF (xL c who seq x.held x.stale) (cfgL c) seq x.held who c.b false) := by have := XL.out; rw [h1] at this ⊢; exact this
  skip
  generalize xL c who seq x.held x.stale = xl at *
  generalize tapeL (.slice oa n oc) t = tl at *
  generalize cfgL c = cl at *
  generalize xL c who seq r1.x.held r1.x.stale = xl1 at *
  generalize tapeL (.slice oa n oc) r1.t = tl1 at *
  generalize Y.at_ c 16 b k = av at *
  clear h1 h2 hO hr1
  have hSv := HS.out.blk 3 rfl
  have v1 := (hSv.cell 1).trans XL.out.b
  have v6 := (hSv.cell 6).trans XL.out.who
  have v8 := (hSv.cell 8).trans XL.out.held
  have v9 := (hSv.cell 9).trans XL.out.stale
  have v8f := hSv.froz 8
  have vl := hSv.lt
  go_enter Try.func96, Try.ntmps96
  go_wp2_with
    (refine wpList_load_any 24 _ rfl rfl _ 0 rfl cl _ (XL.out.pre1 (HS.out.blk 3 rfl)) Try.underlying24 rfl (by rw [hsz6]; kernel_rfl) ?_)
  refine (HA.out _).mono ?_
  rintro e w1 ⟨rfl, hf⟩
  have HS := Lib.hid (HS.out.fr0 hf); clear hf v1 v6 v8 v9 v8f vl hSv
  go_wp2_with
    (first | (refine wpList_load_any 34 _ rfl rfl _ 0 rfl xl _ (HS.out.blk 3 rfl).range Try.underlying34 rfl (by rw [XL.out.len]; kernel_rfl) ?_) | (refine wpList_load_any 47 _ rfl rfl _ 0 rfl tl _ (HS.out.blk 2 rfl).range Try.underlying47 rfl (by rw [TL.out.len]; kernel_rfl) ?_))
  refine (HLV.out _ HS.out.fr).mono ?_
  rintro e w2 ⟨rfl, hf⟩
  have HS := Lib.hid (HS.out.fr0 hf); clear hf
  have hlx : xl1.length = xl.length := X2.out.len.trans XL.out.len.symm
  have hlt : tl1.length = tl.length := T2.out.len.trans TL.out.len.symm
  have hox := X2.out.one
  have hot := T2.out.one
  have hlx2 := X2.out.len
  have hlt2 := T2.out.len
  go_wp2_with (first | (refine wpList_store_sep HS.out 3 rfl xl1 34 _ _ rfl rfl rfl rfl hlx (by rw [hlx2]; kernel_rfl) hox (fun wC hC fC => ?_); have HC := Lib.hid hC; clear hC fC) | (refine wpList_store_sep HC.out 2 rfl tl1 47 _ _ rfl rfl rfl rfl hlt (by rw [hlt2]; kernel_rfl) hot (fun wD hD _ => ?_); have HDD := Lib.hid hD; clear hD))
  have HS := HDD
  have XL := X2
  have TL := T2
  clear hlx hlt hox hot hlx2 hlt2
  have hmv := (HS.out.blk 3 rfl).drew
  have hmt := (HS.out.blk 2 rfl).drew
  have hlx : (xl1).length = zView.length := XL.out.len
  have hlt : (tl1).length = zTape.length := TL.out.len
  have hox := XL.out.one
  have hot := TL.out.one
  have HS := Lib.hid HS.out.drew
  refine wp_region_fr [(1, [0, 1]), (0, [2]), (2, [3]), (3, [4]), (0, [5, 6])] [w.heap.size + 1 + 1] (by kernel_rfl) (by kernel_rfl) ?_
  simp only [theOps, nthOp, List.map_cons, List.map_nil, Array.getD_eq_getD_getElem?, List.getElem?_toArray, List.getElem?_cons_succ, List.getElem?_cons_zero, Option.getD_some]
  refine wpSegs_soft ?_
  refine wpQuiet_load_mid 34 _ w.heap.size 0 xl1 _ rfl rfl rfl (rangeAt_after hmv (by simp <;> omega)) Try.underlying34 rfl (by rw [hlx]; kernel_rfl) ?_
  simp only [Act.put, List.setIfInBounds_toArray, List.set_cons_zero, List.set_cons_succ]
  refine wpQuiet_load_mid 47 _ (w.heap.size + 1) 0 tl1 _ rfl rfl rfl (rangeAt_after hmt (by simp <;> omega)) Try.underlying47 rfl (by rw [hlt]; kernel_rfl) ?_
  simp only [Act.put, List.setIfInBounds_toArray, List.set_cons_zero, List.set_cons_succ]
  refine wpQuiet_nil ?_
  repeat ((first | refine wpSegs_soft ?_ | refine wpSegs_pure ?_ | refine wpSegs_here ?_); (repeat (first | go_big_quiet_step (fail) | quiet_step (fail))); refine wpQuiet_nil ?_)
  refine wpSegs_keep ?_
  refine wpList_store_sep HS.out 1 rfl xl1 34 _ _ rfl rfl rfl rfl hlx (by rw [hlx]; kernel_rfl) hox (fun wC hC fC => ?_)
  have HC := Lib.hid hC; have HF := Lib.hid fC
  clear hC fC
  go_wp2_with fail
  refine ⟨⟨⟨_, (by exact HF.out)⟩, rfl⟩, ?_⟩
  refine wpSegs_hard ?_
  refine wpList_store_sep HC.out 0 rfl tl1 47 _ _ rfl rfl rfl rfl hlt (by rw [hlt]; kernel_rfl) hot (fun wD hD _ => ?_)
  have HDD := Lib.hid hD; clear hD
  go_wp2_with fail
  repeat ((first | refine wpSegs_soft ?_ | refine wpSegs_pure ?_ | refine wpSegs_here ?_); (repeat (first | go_big_quiet_step (fail) | quiet_step (fail))); refine wpQuiet_nil ?_)
  refine wpSegs_done ?_
  go_wp2_with fail
  exact bodyPost_ret (v := .tuple #[.agg (xl1).toArray, .agg (tl1).toArray, .int .u64 0, .int .i64 r1.s]) (res_cctt Try.results96 rfl rfl rfl rfl (HDD.out.blk 1 rfl).range Try.underlying34 rfl (by rw [hlx]; kernel_rfl) (HDD.out.blk 0 rfl).range Try.underlying47 rfl (by rw [hlt]; kernel_rfl)) rfl ⟨rfl, HDD.out.fr⟩
set_option maxRecDepth 100000 in
set_option maxHeartbeats 16000000 in
theorem rword_good (w : World) (c : Cfg) (hok : Ok c) (who seq : Int) (oa : Option Addr) (n oc : Nat) (x : X) (t : Tp) (b k : Int) (hn : n ≤ 100000) (ht : t.at_ ≤ 100000) (l : List O3) (hl : l.length = n) (hO : ArgE enO 3 w (.slice oa n oc) l) (h1 : x.stale = false) (h2 : ¬ Y.at_ c 16 b k < 0) (r1 : Rd) (hr1 : rlive c who seq l x t b = r1) (h3 : r1.s = 1) (r : Rd) (hr : rload seq l r1.x r1.t (Y.at_ c 16 b k) = r) :
    Calls Try.prog 96 #[.agg (xL c who seq x.held x.stale).toArray, .agg (tapeL (.slice oa n oc) t).toArray, .int .i64 b, .int .i64 k] w fun e w' => e = .returned (.tuple #[.agg (xL c who seq r.x.held r.x.stale).toArray, .agg (tapeL (.slice oa n oc) r.t).toArray, .int .u64 r.val, .int .i64 r.s]) ∧ Fr [] w w' := by
  have hsz6 : (cfgL c).length = 6 := rfl
  have HA : Hid (∀ w, Calls Try.prog 94 #[.agg (cfgL c).toArray, .int .i64 16, .int .i64 b, .int .i64 k] w fun e w' => e = .returned (.int .i64 (Y.at_ c 16 b k)) ∧ Fr [] w w') := fun w => rat_any w c hok 16 b k
  have g2 : decide (Y.at_ c 16 b k < 0) = false := by simpa using h2
  have HLV := Lib.hid (fun w' (f : Fr [] w w') => rlive_any w' c hok who seq oa n oc x t b hn ht l hl (hO.fr f) r1 hr1.symm)
  have X2 := Lib.hid (xf c who seq r1.x.held r1.x.stale)
  have T2 := Lib.hid (tf oa n oc r1.t)
  have hra := rlive_at c who seq l x t b
  rw [hr1] at hra
  have HLD := Lib.hid (fun w' (f : Fr [] w w') => rload_any w' c who seq oa n oc r1.x r1.t (Y.at_ c 16 b k) hn (by omega) l hl (hO.fr f))
  rw [hr] at HLD
  have X3 := Lib.hid (xf c who seq r.x.held r.x.stale)
  have T3 := Lib.hid (tf oa n oc r.t)
  generalize xL c who seq r.x.held r.x.stale = xl3 at *
  generalize tapeL (.slice oa n oc) r.t = tl3 at *
  rw [h3] at HLV
  clear h3 hra hr
  have hS := ((((Sep.nil (Fr.refl [] w)).new 34 (xL c who seq x.held x.stale)).new 47 (tapeL (.slice oa n oc) t)).new 34 zView).new 47 zTape
  simp only [World.size_alloc] at hS
  unfold zView zTape at hS
  have HS := Lib.hid hS; clear hS
  have XL := Lib.hid (xf c who seq x.held x.stale)
  have TL := Lib.hid (tf oa n oc t)
  have XL : Hid (XF (xL c who seq x.held x.stale) (cfgL c) seq x.held who c.b false) := by have := XL.out; rw [h1] at this ⊢; exact this
  skip
  generalize xL c who seq x.held x.stale = xl at *
  generalize tapeL (.slice oa n oc) t = tl at *
  generalize cfgL c = cl at *
  generalize xL c who seq r1.x.held r1.x.stale = xl1 at *
  generalize tapeL (.slice oa n oc) r1.t = tl1 at *
  generalize Y.at_ c 16 b k = av at *
  clear h1 h2 hO hr1
  have hSv := HS.out.blk 3 rfl
  have v1 := (hSv.cell 1).trans XL.out.b
  have v6 := (hSv.cell 6).trans XL.out.who
  have v8 := (hSv.cell 8).trans XL.out.held
  have v9 := (hSv.cell 9).trans XL.out.stale
  have v8f := hSv.froz 8
  have vl := hSv.lt
  go_enter Try.func96, Try.ntmps96
  go_wp2_with
    (refine wpList_load_any 24 _ rfl rfl _ 0 rfl cl _ (XL.out.pre1 (HS.out.blk 3 rfl)) Try.underlying24 rfl (by rw [hsz6]; kernel_rfl) ?_)
  refine (HA.out _).mono ?_
  rintro e w1 ⟨rfl, hf⟩
  have HS := Lib.hid (HS.out.fr0 hf); clear hf v1 v6 v8 v9 v8f vl hSv
  go_wp2_with
    (first | (refine wpList_load_any 34 _ rfl rfl _ 0 rfl xl _ (HS.out.blk 3 rfl).range Try.underlying34 rfl (by rw [XL.out.len]; kernel_rfl) ?_) | (refine wpList_load_any 47 _ rfl rfl _ 0 rfl tl _ (HS.out.blk 2 rfl).range Try.underlying47 rfl (by rw [TL.out.len]; kernel_rfl) ?_))
  refine (HLV.out _ HS.out.fr).mono ?_
  rintro e w2 ⟨rfl, hf⟩
  have HS := Lib.hid (HS.out.fr0 hf); clear hf
  have hlx : xl1.length = xl.length := X2.out.len.trans XL.out.len.symm
  have hlt : tl1.length = tl.length := T2.out.len.trans TL.out.len.symm
  have hox := X2.out.one
  have hot := T2.out.one
  have hlx2 := X2.out.len
  have hlt2 := T2.out.len
  go_wp2_with (first | (refine wpList_store_sep HS.out 3 rfl xl1 34 _ _ rfl rfl rfl rfl hlx (by rw [hlx2]; kernel_rfl) hox (fun wC hC fC => ?_); have HC := Lib.hid hC; clear hC fC) | (refine wpList_store_sep HC.out 2 rfl tl1 47 _ _ rfl rfl rfl rfl hlt (by rw [hlt2]; kernel_rfl) hot (fun wD hD _ => ?_); have HDD := Lib.hid hD; clear hD) | (refine wpList_load_any 34 _ rfl rfl _ 0 rfl xl1 _ (HDD.out.blk 3 rfl).range Try.underlying34 rfl (by rw [hlx2]; kernel_rfl) ?_) | (refine wpList_load_any 47 _ rfl rfl _ 0 rfl tl1 _ (HDD.out.blk 2 rfl).range Try.underlying47 rfl (by rw [hlt2]; kernel_rfl) ?_))
  refine (HLD.out _ HDD.out.fr).mono ?_
  rintro e w3 ⟨rfl, hf⟩
  have HS := Lib.hid (HDD.out.fr0 hf); clear hf hlx hlt hox hot hlx2 hlt2
  have hlx : (xl3).length = zView.length := (X3.out).len
  have hlt : (tl3).length = zTape.length := (T3.out).len
  have hox := (X3.out).one
  have hot := (T3.out).one
  go_wp2_with (first | (refine wpList_store_sep HS.out 1 rfl xl3 34 _ _ rfl rfl rfl rfl hlx (by rw [hlx]; kernel_rfl) hox (fun wC hC fC => ?_); have HC := Lib.hid hC; clear hC fC) | (refine wpList_store_sep HC.out 0 rfl tl3 47 _ _ rfl rfl rfl rfl hlt (by rw [hlt]; kernel_rfl) hot (fun wD hD _ => ?_); have HDD := Lib.hid hD; clear hD))
  exact bodyPost_ret (v := .tuple #[.agg (xl3).toArray, .agg (tl3).toArray, .int .u64 r.val, .int .i64 r.s]) (res_cctt Try.results96 rfl rfl rfl rfl (HDD.out.blk 1 rfl).range Try.underlying34 rfl (by rw [hlx]; kernel_rfl) (HDD.out.blk 0 rfl).range Try.underlying47 rfl (by rw [hlt]; kernel_rfl)) rfl ⟨rfl, HDD.out.fr⟩
theorem rword_any (w : World) (c : Cfg) (hok : Ok c) (who seq : Int) (oa : Option Addr) (n oc : Nat) (x : X) (t : Tp) (b k : Int) (hn : n ≤ 100000) (ht : t.at_ ≤ 100000) (l : List O3) (hl : l.length = n) (hO : ArgE enO 3 w (.slice oa n oc) l) (r : Rd) (hr : r = rword c who seq l x t b k) :
    Calls Try.prog 96 #[.agg (xL c who seq x.held x.stale).toArray, .agg (tapeL (.slice oa n oc) t).toArray, .int .i64 b, .int .i64 k] w fun e w' => e = .returned (.tuple #[.agg (xL c who seq r.x.held r.x.stale).toArray, .agg (tapeL (.slice oa n oc) r.t).toArray, .int .u64 r.val, .int .i64 r.s]) ∧ Fr [] w w' := by
  unfold rword at hr
  by_cases h1 : x.stale = true
  · rw [if_pos h1] at hr
    exact rword_stale w c hok who seq oa n oc x t b k hn ht l hl hO h1 r hr
  rw [if_neg h1] at hr
  have h1 : x.stale = false := by simpa using h1
  by_cases h2 : Y.at_ c 16 b k < 0
  · rw [if_pos h2] at hr
    exact rword_no w c hok who seq oa n oc x t b k hn ht l hl hO h1 h2 r hr
  rw [if_neg h2] at hr
  dsimp only at hr
  generalize hr1 : rlive c who seq l x t b = r1 at hr
  by_cases h3 : r1.s = 1
  · rw [if_neg (by simpa using h3)] at hr
    exact rword_good w c hok who seq oa n oc x t b k hn ht l hl hO h1 h2 r1 hr1 h3 r hr.symm
  · rw [if_pos h3] at hr
    exact rword_else w c hok who seq oa n oc x t b k hn ht l hl hO h1 h2 r1 hr1 h3 r hr
end Go.Proofs.Ytccioehckfdjdaa
