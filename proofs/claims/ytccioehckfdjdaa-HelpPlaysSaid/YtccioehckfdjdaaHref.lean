/- The walks of the document's open, block (chapter 12). -/
import Derived.Test.YtccioehckfdjdaaTload
import Derived.Test.YtccioehckfdjdaaHtell
import Derived.Test.YtccioehckfdjdaaHmatch
import Derived.Test.YtccioehckfdjdaaYref
import Derived.Test.YtccioehckfdjdaaYrat
import Derived.Test.YtccioehckfdjdaaYrefS
import Derived.Deep.LoopGhost
set_option linter.unusedSimpArgs false
set_option linter.unusedVariables false
namespace Go.Proofs.Ytccioehckfdjdaa
open Go.RowKit Go.Tum Go.Tum.Y Go.Tum.Sc
/-- What comes behind several ways, once. -/
theorem join_of {A : Prop} {G S : Nat → World → Prop} (h : (∀ X wF, S X wF → G X wF) → A) (x : ∀ X wF, S X wF → G X wF) : A := h x
theorem rblock_any (w : World) (c : Cfg) (h : Ok c) (a : Int) (h0 : 0 ≤ a) (h1 : a ≤ 200000) : Calls Try.prog 117 #[cfgV c, .int .i64 a] w fun e w' => e = .returned (.int .i64 (H.blockOf c a)) ∧ Fr [] w w' := by
  have HF := Lib.hid (fun w => rfrom_16 w c h)
  have hfb : 0 ≤ fWord c ∧ fWord c ≤ 18100 := fromP_bd h 16
  have hsz6 : (cfgL c).length = 6 := rfl
  have HS := Lib.hid ((Sep.nil (Fr.refl [] w)).new 24 (cfgL c))
  unfold H.blockOf
  rw [show cfgV c = .agg (cfgL c).toArray from rfl] at *
  generalize cfgL c = cl at *
  generalize fWord c = f at *
  by_cases hlt : a < f
  · rw [if_pos hlt]
    have d1 : decide (a < f) = true := by simpa using hlt
    go_enter Try.func117, Try.ntmps117
    go_wp2_with (refine wpList_load_any 24 _ rfl rfl _ 0 rfl cl _ (HS.out.blk 0 rfl).range Try.underlying24 rfl (by rw [hsz6]; kernel_rfl) ?_)
    refine (HF.out _).mono ?_
    rintro e w1 ⟨rfl, hf⟩
    have HS := Lib.hid (HS.out.fr0 hf); clear hf
    go_wp2_with fail
    go_ret
    exact ⟨rfl, HS.out.fr⟩
  · rw [if_neg hlt]
    have d1 : decide (a < f) = false := by simpa using hlt
    have hq : Int.tdiv (a - f) 8 = (a - f) / 8 := Int.tdiv_eq_ediv_of_nonneg (by omega)
    have hqb : 0 ≤ (a - f) / 8 ∧ (a - f) / 8 ≤ 200000 := by omega
    generalize (a - f) / 8 = r at *
    go_enter Try.func117, Try.ntmps117
    go_wp2_with (refine wpList_load_any 24 _ rfl rfl _ 0 rfl cl _ (HS.out.blk 0 rfl).range Try.underlying24 rfl (by rw [hsz6]; kernel_rfl) ?_)
    refine (HF.out _).mono ?_
    rintro e w1 ⟨rfl, hf⟩
    have HS := Lib.hid (HS.out.fr0 hf); clear hf
    go_wp2_with fail
    go_ret
    exact ⟨rfl, HS.out.fr⟩
set_option maxRecDepth 100000 in
set_option maxHeartbeats 8000000 in
theorem ropen_any (w : World) (c : Cfg) (h : Ok c) (owner seq : Int) (oa : Option Addr) (n oc : Nat) (t : Tp) (hn : n ≤ 100000) (ht : t.at_ ≤ 200000) (l : List O3) (hl : l.length = n) (hO : ArgE enO 3 w (.slice oa n oc) l) :
    Calls Try.prog 119 #[cfgV c, .int .i64 owner, .int .u64 seq, .agg (tapeL (.slice oa n oc) t).toArray] w fun e w' => e = .returned (.tuple #[.agg (tapeL (.slice oa n oc) (t.step n (H.ldOp (at_ c 4 owner 0)))).toArray, .bool (H.isOpen seq (t.out l))]) ∧ Fr [] w w' := by
  have HA : Hid (∀ w, Calls Try.prog 94 #[.agg (cfgL c).toArray, .int .i64 4, .int .i64 owner, .int .i64 0] w fun e w' => e = .returned (.int .i64 (at_ c 4 owner 0)) ∧ Fr [] w w') := fun w => rat_any w c h 4 owner 0
  generalize at_ c 4 owner 0 = p at *
  have HLD : Hid (∀ w', Fr [] w w' → Calls Try.prog 103 #[.agg (tapeL (.slice oa n oc) t).toArray, .int .i64 p] w' fun e w'' => e = .returned (.tuple #[.agg (tapeL (.slice oa n oc) (t.step n (H.ldOp p))).toArray, .agg [Value.int .u64 (t.out l).v, .int .u64 (t.out l).s].toArray]) ∧ Fr [] w' w'') := fun w' f => hload_any w' oa n oc t p hn ht l hl (hO.fr f)
  have hsz6 : (cfgL c).length = 6 := rfl
  have hS := (((Sep.nil (Fr.refl [] w)).new 24 (cfgL c)).new 47 (tapeL (.slice oa n oc) t)).new 47 zT
  simp only [World.size_alloc] at hS
  unfold zT at hS
  have HS := Lib.hid hS; clear hS
  have T1 := Lib.hid (tft oa n oc t)
  have T2 := Lib.hid (tft oa n oc (t.step n (H.ldOp p)))
  have HO1 := enO_hd2 (t.out l)
  have HEQ : ∀ w, (binOp .eql 41 (.agg #[.int .u64 (t.out l).v, .int .u64 (t.out l).s]) (.agg #[.int .u64 1, .int .u64 seq])).run Try.prog w = .ok (.bool (H.isOpen seq (t.out l))) w := fun w => eql_cell w _ _ 1 seq
  rw [show cfgV c = .agg (cfgL c).toArray from rfl] at *
  clear hO ht
  generalize H.isOpen seq (t.out l) = is at *
  generalize tapeL (.slice oa n oc) (t.step n (H.ldOp p)) = tl2 at *
  generalize tapeL (.slice oa n oc) t = tl at *
  generalize (t.step n (H.ldOp p)).need = nd2 at *
  generalize t.need = nd at *
  generalize t.out l = o at *
  obtain ⟨ov, os, ook⟩ := o
  dsimp only at HLD HO1 HEQ
  generalize cfgL c = cl at *
  go_enter Try.func119, Try.ntmps119
  go_wp2_with fail
  have hmt := (HS.out.blk 1 rfl).drew
  have hmc := (HS.out.blk 2 rfl).drew
  have hlt := T1.out.len
  refine step_start ([3, 4, 8], [9, 10]) [] (by kernel_rfl) ?_
  refine step_reads (N := 8) [0, 1, 2] (by kernel_rfl) ⟨⟨_, Fr.refl _ _⟩, rfl⟩ ?_
  simp only [theOps, nthOp, List.map_cons, List.map_nil, Array.getD_eq_getD_getElem?, List.getElem?_toArray, List.getElem?_cons_succ, List.getElem?_cons_zero, Option.getD_some]
  refine wpQuiet_load_mid 47 _ (w.heap.size + 1) 0 tl _ rfl rfl rfl (rangeAt_after hmt (by simp <;> omega)) Try.underlying47 rfl (by rw [hlt]; kernel_rfl) ?_
  simp only [Act.put, List.setIfInBounds_toArray, List.set_cons_zero, List.set_cons_succ]
  refine wpQuiet_load_mid 24 _ w.heap.size 0 cl _ rfl rfl rfl (rangeAt_after hmc (by simp)) Try.underlying24 rfl (by rw [hsz6]; kernel_rfl) ?_
  simp only [Act.put, List.setIfInBounds_toArray, List.set_cons_zero, List.set_cons_succ]
  repeat (first | go_big_quiet_step (fail) | quiet_step (fail))
  refine wpQuiet_nil ?_
  have HS := Lib.hid HS.out.drew
  clear hmt hmc hlt
  generalize World.drew _ = wd at HS ⊢
  have HF := Lib.hid (Fr.refl [] wd)
  apply join_of (S := fun X wF => Sep w wF [blkT X 41 [.int .u64 ov, .int .u64 os], blkT (w.heap.size + 1 + 1) 47 [.slice none 0 0, .int .i64 0, .int .i64 0, .int .i64 0, .int .u64 0, .int .u64 0, .int .u64 0, .int .u64 0, .bool false], blkT (w.heap.size + 1) 47 tl2, blkT w.heap.size 24 cl])
  · intro HR
    refine step_two (N := 7) 3 8 (by kernel_rfl) rfl rfl ?_ ?_
    · go_wp2_with fail
      refine (HA.out _).mono ?_
      rintro e w9 ⟨rfl, hf⟩
      have HF := Lib.hid (HF.out.trans hf)
      have HS := Lib.hid (HS.out.fr0 hf); clear hf
      go_wp2_with fail
      refine ⟨⟨⟨_, (by exact HF.out)⟩, rfl⟩, ?_⟩
      refine step_two (N := 6) 4 8 (by kernel_rfl) rfl rfl ?_ ?_
      · go_wp2_with fail
        refine (HLD.out _ HS.out.fr).mono ?_
        rintro e w9 ⟨rfl, hf⟩
        have HF := Lib.hid (HF.out.trans hf)
        have HS := Lib.hid (HS.out.fr0 hf); clear hf
        go_wp2_with fail
        refine ⟨⟨⟨_, (by exact HF.out)⟩, rfl⟩, ?_⟩
        refine step_pures (N := 3) [5, 6, 7] (by kernel_rfl) ?_
        simp only [theOps, nthOp, List.map_cons, List.map_nil, Array.getD_eq_getD_getElem?, List.getElem?_toArray, List.getElem?_cons_succ, List.getElem?_cons_zero, Option.getD_some]
        repeat (first | go_big_quiet_step (fail) | quiet_step (fail))
        refine wpQuiet_nil ?_
        refine step_keep (N := 2) 8 (by kernel_rfl) rfl ?_
        go_wp2_with fail
        have hf := Fr.alloc HF.out (.cells ([.int .u64 0, .int .u64 0]).toArray 41)
        have hS := HS.out.new 41 ([.int .u64 0, .int .u64 0])
        have HF := Lib.hid hf; have HS := Lib.hid hS; clear hf hS
        refine ⟨⟨⟨_, (by exact HF.out)⟩, rfl⟩, ?_⟩
        generalize w9.heap.size = X at HS ⊢
        refine step_hard (N := 1) 9 (by kernel_rfl) rfl ?_
        refine wpList_store_sep HS.out 2 rfl tl2 47 _ _ rfl rfl rfl rfl (by rw [T2.out.len, T1.out.len]) (by rw [T2.out.len]; kernel_rfl) T2.out.one (fun wA hA _ => ?_)
        have HS := Lib.hid hA; clear hA
        simp only [List.set_cons_zero, List.set_cons_succ] at HS
        go_wp2_with fail
        refine step_hard (N := 0) 10 (by kernel_rfl) rfl ?_
        refine wpList_store_sep HS.out 0 rfl [.int .u64 ov, .int .u64 os] 41 _ _ rfl rfl rfl rfl rfl (by kernel_rfl) HO1 (fun wA hA _ => ?_)
        have HS := Lib.hid hA; clear hA
        simp only [List.set_cons_zero, List.set_cons_succ] at HS
        go_wp2_with fail
        refine step_done (by kernel_rfl) ?_
        exact HR X _ HS.out
      · go_wp2_with fail
        have hf := Fr.alloc HF.out (.cells ([.int .u64 0, .int .u64 0]).toArray 41)
        have hS := HS.out.new 41 ([.int .u64 0, .int .u64 0])
        have HF := Lib.hid hf; have HS := Lib.hid hS; clear hf hS
        refine ⟨⟨⟨_, (by exact HF.out)⟩, rfl⟩, ?_⟩
        generalize w9.heap.size = X at HS ⊢
        refine step_keep (N := 5) 4 (by kernel_rfl) rfl ?_
        go_wp2_with fail
        refine (HLD.out _ HS.out.fr).mono ?_
        rintro e w9 ⟨rfl, hf⟩
        have HF := Lib.hid (HF.out.trans hf)
        have HS := Lib.hid (HS.out.fr0 hf); clear hf
        go_wp2_with fail
        refine ⟨⟨⟨_, (by exact HF.out)⟩, rfl⟩, ?_⟩
        refine step_pures (N := 2) [5, 6, 7] (by kernel_rfl) ?_
        simp only [theOps, nthOp, List.map_cons, List.map_nil, Array.getD_eq_getD_getElem?, List.getElem?_toArray, List.getElem?_cons_succ, List.getElem?_cons_zero, Option.getD_some]
        repeat (first | go_big_quiet_step (fail) | quiet_step (fail))
        refine wpQuiet_nil ?_
        refine step_hard (N := 1) 9 (by kernel_rfl) rfl ?_
        refine wpList_store_sep HS.out 2 rfl tl2 47 _ _ rfl rfl rfl rfl (by rw [T2.out.len, T1.out.len]) (by rw [T2.out.len]; kernel_rfl) T2.out.one (fun wA hA _ => ?_)
        have HS := Lib.hid hA; clear hA
        simp only [List.set_cons_zero, List.set_cons_succ] at HS
        go_wp2_with fail
        refine step_hard (N := 0) 10 (by kernel_rfl) rfl ?_
        refine wpList_store_sep HS.out 0 rfl [.int .u64 ov, .int .u64 os] 41 _ _ rfl rfl rfl rfl rfl (by kernel_rfl) HO1 (fun wA hA _ => ?_)
        have HS := Lib.hid hA; clear hA
        simp only [List.set_cons_zero, List.set_cons_succ] at HS
        go_wp2_with fail
        refine step_done (by kernel_rfl) ?_
        exact HR X _ HS.out
    · go_wp2_with fail
      have hf := Fr.alloc HF.out (.cells ([.int .u64 0, .int .u64 0]).toArray 41)
      have hS := HS.out.new 41 ([.int .u64 0, .int .u64 0])
      have HF := Lib.hid hf; have HS := Lib.hid hS; clear hf hS
      refine ⟨⟨⟨_, (by exact HF.out)⟩, rfl⟩, ?_⟩
      generalize wd.heap.size = X at HS ⊢
      refine step_keep (N := 6) 3 (by kernel_rfl) rfl ?_
      go_wp2_with fail
      refine (HA.out _).mono ?_
      rintro e w9 ⟨rfl, hf⟩
      have HF := Lib.hid (HF.out.trans hf)
      have HS := Lib.hid (HS.out.fr0 hf); clear hf
      go_wp2_with fail
      refine ⟨⟨⟨_, (by exact HF.out)⟩, rfl⟩, ?_⟩
      refine step_keep (N := 5) 4 (by kernel_rfl) rfl ?_
      go_wp2_with fail
      refine (HLD.out _ HS.out.fr).mono ?_
      rintro e w9 ⟨rfl, hf⟩
      have HF := Lib.hid (HF.out.trans hf)
      have HS := Lib.hid (HS.out.fr0 hf); clear hf
      go_wp2_with fail
      refine ⟨⟨⟨_, (by exact HF.out)⟩, rfl⟩, ?_⟩
      refine step_pures (N := 2) [5, 6, 7] (by kernel_rfl) ?_
      simp only [theOps, nthOp, List.map_cons, List.map_nil, Array.getD_eq_getD_getElem?, List.getElem?_toArray, List.getElem?_cons_succ, List.getElem?_cons_zero, Option.getD_some]
      repeat (first | go_big_quiet_step (fail) | quiet_step (fail))
      refine wpQuiet_nil ?_
      refine step_hard (N := 1) 9 (by kernel_rfl) rfl ?_
      refine wpList_store_sep HS.out 2 rfl tl2 47 _ _ rfl rfl rfl rfl (by rw [T2.out.len, T1.out.len]) (by rw [T2.out.len]; kernel_rfl) T2.out.one (fun wA hA _ => ?_)
      have HS := Lib.hid hA; clear hA
      simp only [List.set_cons_zero, List.set_cons_succ] at HS
      go_wp2_with fail
      refine step_hard (N := 0) 10 (by kernel_rfl) rfl ?_
      refine wpList_store_sep HS.out 0 rfl [.int .u64 ov, .int .u64 os] 41 _ _ rfl rfl rfl rfl rfl (by kernel_rfl) HO1 (fun wA hA _ => ?_)
      have HS := Lib.hid hA; clear hA
      simp only [List.set_cons_zero, List.set_cons_succ] at HS
      go_wp2_with fail
      refine step_done (by kernel_rfl) ?_
      exact HR X _ HS.out
  · clear HS HF HA HLD
    intro X wF hS
    have hxr : ¬ X = w.heap.size + 1 + 1 := hS.ne 0 1 rfl rfl (by decide)
    have hm1 := (hS.blk 2 rfl).drew
    have hm2 := (hS.blk 0 rfl).drew
    have hlt := T2.out.len
    have HS := Lib.hid hS.drew; clear hS
    go_wp2_with fail
    refine wp_region_fr [(1, [0, 1, 2, 3, 4]), (2, [5]), (0, [6])] [w.heap.size + 1 + 1] (by kernel_rfl) (by kernel_rfl) ?_
    simp only [theOps, nthOp, List.map_cons, List.map_nil, Array.getD_eq_getD_getElem?, List.getElem?_toArray, List.getElem?_cons_succ, List.getElem?_cons_zero, Option.getD_some]
    refine wpSegs_soft ?_
    refine wpQuiet_load_mid 47 _ (w.heap.size + 1) 0 tl2 _ rfl rfl rfl (rangeAt_after hm1 (by simp <;> omega)) Try.underlying47 rfl (by rw [hlt]; kernel_rfl) ?_
    simp only [Act.put, List.setIfInBounds_toArray, List.set_cons_zero, List.set_cons_succ]
    refine wpQuiet_load_mid 41 _ X 0 [.int .u64 ov, .int .u64 os] _ rfl rfl rfl (rangeAt_after hm2 (by simpa using hxr)) Try.underlying41 rfl (by kernel_rfl) ?_
    simp only [Act.put, List.setIfInBounds_toArray, List.set_cons_zero, List.set_cons_succ]
    repeat (first | go_big_quiet_step (fail) | quiet_step (fail))
    refine wpQuiet_nil ?_
    refine wpSegs_keep ?_
    refine wpList_store_sep HS.out 1 rfl tl2 47 _ _ rfl rfl rfl rfl (by rw [hlt]; rfl) (by rw [hlt]; kernel_rfl) T2.out.one (fun wC hC fC => ?_)
    have HC := Lib.hid hC; have HFC := Lib.hid fC
    clear hC fC
    go_wp2_with fail
    refine ⟨⟨⟨_, (by exact HFC.out)⟩, rfl⟩, ?_⟩
    repeat ((first | refine wpSegs_soft ?_ | refine wpSegs_pure ?_ | refine wpSegs_here ?_); (repeat (first | go_big_quiet_step (fail) | quiet_step (fail))); refine wpQuiet_nil ?_)
    refine wpSegs_done ?_
    go_wp2_with fail
    exact bodyPost_ret (v := .tuple #[.agg tl2.toArray, .bool is]) (res_cell_tmp Try.results119 rfl rfl (HC.out.blk 1 rfl).range Try.underlying47 rfl (by rw [hlt]; kernel_rfl)) rfl ⟨rfl, HC.out.fr⟩
end Go.Proofs.Ytccioehckfdjdaa
