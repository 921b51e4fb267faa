/- The walk of the document's Copy (chapter 12). -/
import Derived.Test.YtccioehckfdjdaaHref
import Derived.Test.YtccioehckfdjdaaTrio
import Derived.Test.YtccioehckfdjdaaArgO
import Derived.Test.YtccioehckfdjdaaScas
set_option linter.unusedSimpArgs false
set_option linter.unusedVariables false
namespace Go.Tum
/-- An empty slice, just made. -/
theorem Sep.emptyRow8 {w0 w : World} {R : List Thing} (h : Sep w0 w R) (e : TypeId) (size : Nat) : Sep w0 (w.alloc (.cells #[] e)) (rowT 0 e size (.slice (some ⟨w.heap.size, 0, none⟩) 0 0) 0 [] :: R) :=
  h.fresh ⟨(Fr.refl [] w).alloc _, [w.heap.size], ⟨rfl, World.ownsRow_made w #[] 0 (Nat.zero_le _) (by unfold maxLen; omega) (by simp)⟩, by simp⟩
end Go.Tum
namespace Go.Proofs.Ytccioehckfdjdaa
open Go.RowKit Go.Tum Go.Tum.Y Go.Tum.Sc
theorem join_of2 {A : Prop} {G S : Nat → Nat → World → Prop} (h : (∀ X Y wF, S X Y wF → G X Y wF) → A) (x : ∀ X Y wF, S X Y wF → G X Y wF) : A := h x
theorem H_infoE8 : (Try.prog.info? 177).map (fun i => (i.zero, i.size, i.bytes)) = some (some (.agg #[.int .i64 0, .int .u64 0]), 2, 16) := by kernel_rfl
theorem out_good {l : List O3} (hG : ∀ x ∈ l, goodO x) (t : Tp) : goodO (t.out l) := by
  unfold Tp.out
  split
  · simp [goodO]
  · by_cases h : t.at_ < l.length
    · rw [List.getElem?_eq_getElem h]; exact hG _ (List.getElem_mem h)
    · rw [List.getElem?_eq_none (by omega)]; simp [goodO]
set_option maxRecDepth 100000 in
set_option maxHeartbeats 16000000 in
theorem rcopy_any (w : World) (c : Cfg) (h : Ok c) (owner : Int) (oa : Option Addr) (n oc : Nat) (t : Tp) (hn : n ≤ 100000) (ht : t.at_ ≤ 1000) (l : List O3) (hl : l.length = n) (hO : ArgE enO 3 w (.slice oa n oc) l) (hG : ∀ x ∈ l, goodO x) (FIN : Tp × List (Int × Int)) (hFIN : H.copyG c owner l (t.out l).v (cap c).toNat 0 (t.step n (H.ldOp (at_ c 5 owner 0))) [] = FIN) :
    Calls Try.prog 121 #[cfgV c, .int .i64 owner, .agg (tapeL (.slice oa n oc) t).toArray] w fun e w' => ∃ v', e = .returned (.tuple #[.agg (tapeL (.slice oa n oc) FIN.1).toArray, v']) ∧ Sep w w' [rowT 0 177 2 v' FIN.2.length (flat enE FIN.2)] := by
  have hcb := cap_bd h
  have HA5 : Hid (∀ w, Calls Try.prog 94 #[.agg (cfgL c).toArray, .int .i64 5, .int .i64 owner, .int .i64 0] w fun e w' => e = .returned (.int .i64 (at_ c 5 owner 0)) ∧ Fr [] w w') := fun w => rat_any w c h 5 owner 0
  have HA6k : Hid (∀ w (k : Int), Calls Try.prog 94 #[.agg (cfgL c).toArray, .int .i64 6, .int .i64 owner, .int .i64 k] w fun e w' => e = .returned (.int .i64 (at_ c 6 owner k)) ∧ Fr [] w w') := fun w k => rat_any w c h 6 owner k
  have HCP : Hid (∀ w, Calls Try.prog 80 #[.agg (cfgL c).toArray] w fun e w' => e = .returned (.int .i64 (cap c)) ∧ Fr [] w w') := fun w => rcap_any w c h
  have HLDA : Hid (∀ (tt : Tp) (p : Int) (w' : World), tt.at_ ≤ 200000 → Fr [] w w' → Calls Try.prog 103 #[.agg (tapeL (.slice oa n oc) tt).toArray, .int .i64 p] w' fun e w'' => e = .returned (.tuple #[.agg (tapeL (.slice oa n oc) (tt.step n (H.ldOp p))).toArray, .agg [Value.int .u64 (tt.out l).v, .int .u64 (tt.out l).s].toArray]) ∧ Fr [] w' w'') := fun tt p w' htt f => hload_any w' oa n oc tt p hn htt l hl (hO.fr f)
  have HOG := Lib.hid (fun tt => out_good hG tt)
  obtain ⟨i0, hi0, hz0, hz1, hz2⟩ := info_parts H_infoE8
  have HTF := Lib.hid (fun tt => tft oa n oc tt)
  have hsz6 : (cfgL c).length = 6 := rfl
  generalize at_ c 5 owner 0 = p5 at *
  have HLD1 : Hid (∀ w', Fr [] w w' → _) := fun w' f => HLDA.out t p5 w' (by omega) f
  have hg0 := HOG.out t
  have HSA := Lib.hid (fun (t : Tp) (op : P6) => tstep_at n t op)
  have ht1 := HSA.out t (H.ldOp p5)
  generalize t.step n (H.ldOp p5) = t1 at *
  generalize t.out l = o1 at *
  obtain ⟨nv, ns, nk⟩ := o1
  obtain ⟨g1, g2, g3, g4⟩ := hg0
  dsimp only at g1 g2 g3 g4 HLD1 hFIN
  have hS := (((Sep.nil (Fr.refl [] w)).new 24 (cfgL c)).new 47 (tapeL (.slice oa n oc) t)).new 47 zT
  simp only [World.size_alloc] at hS
  unfold zT at hS
  have HS := Lib.hid hS; clear hS
  have T0 := Lib.hid (HTF.out t)
  have T1 := Lib.hid (HTF.out t1)
  have HO1 := enO_hd2 ⟨nv, ns, nk⟩
  dsimp only at HO1
  obtain ⟨tl1, htl1⟩ : ∃ tl1, tl1 = tapeL (.slice oa n oc) t1 := ⟨_, rfl⟩
  have HTL1 := Lib.hid htl1
  rw [← htl1] at HLD1 T1
  clear htl1
  rw [show cfgV c = .agg (cfgL c).toArray from rfl] at *
  generalize tapeL (.slice oa n oc) t = tl at *
  generalize t.need = nd0 at *
  generalize cfgL c = cl at *
  generalize hcp : cap c = cp at *
  obtain ⟨capN, hcN⟩ : ∃ capN : Nat, capN = cp.toNat := ⟨_, rfl⟩
  rw [← hcN] at hFIN
  have hcpN : (capN : Int) = cp := by omega
  have HCN := Lib.hid hcpN
  have HFIN := Lib.hid hFIN
  have ht1b : t1.at_ ≤ 1001 := by omega
  clear hcN hFIN hcp hG hO ht hcpN
  go_enter Try.func121, Try.ntmps121
  go_wp2_with fail
  have hmt := (HS.out.blk 1 rfl).drew
  have hmc := (HS.out.blk 2 rfl).drew
  have hlt := T0.out.len
  refine step_start ([3, 4, 8], [9, 10]) [] (by kernel_rfl) ?_
  refine step_reads (N := 8) [0, 1, 2] (by kernel_rfl) ⟨⟨_, Fr.refl _ _⟩, rfl⟩ ?_
  simp only [theOps, nthOp, List.map_cons, List.map_nil, Array.getD_eq_getD_getElem?, List.getElem?_toArray, List.getElem?_cons_succ, List.getElem?_cons_zero, Option.getD_some]
  refine wpQuiet_load_mid 47 _ (w.heap.size + 1) 0 tl _ rfl rfl rfl (rangeAt_after hmt (by simp <;> omega)) Try.underlying47 rfl (by rw [hlt]; kernel_rfl) ?_
  simp only [Act.put, List.setIfInBounds_toArray, List.set_cons_zero, List.set_cons_succ]
  refine wpQuiet_load_mid 24 _ w.heap.size 0 cl _ rfl rfl rfl (rangeAt_after hmc (by simp)) Try.underlying24 rfl (by rw [hsz6]; kernel_rfl) ?_
  simp only [Act.put, List.setIfInBounds_toArray, List.set_cons_zero, List.set_cons_succ]
  repeat (first | go_big_quiet_step (fail) | quiet_step (fail))
  refine wpQuiet_nil ?_
  have HS := Lib.hid HS.out.drew
  clear hmt hmc hlt
  generalize World.drew _ = wd at HS ⊢
  have HF := Lib.hid (Fr.refl [] wd)
  apply join_of (S := fun X wF => Sep w wF [blkT X 41 [.int .u64 nv, .int .u64 ns], blkT (w.heap.size + 1 + 1) 47 [.slice none 0 0, .int .i64 0, .int .i64 0, .int .i64 0, .int .u64 0, .int .u64 0, .int .u64 0, .int .u64 0, .bool false], blkT (w.heap.size + 1) 47 tl1, blkT w.heap.size 24 cl])
  · intro HR
    refine step_two (N := 7) 3 8 (by kernel_rfl) rfl rfl ?_ ?_
    · go_wp2_with fail
      refine (HA5.out _).mono ?_
      rintro e w9 ⟨rfl, hf⟩
      have HF := Lib.hid (HF.out.trans hf)
      have HS := Lib.hid (HS.out.fr0 hf); clear hf
      go_wp2_with fail
      refine ⟨⟨⟨_, (by exact HF.out)⟩, rfl⟩, ?_⟩
      refine step_two (N := 6) 4 8 (by kernel_rfl) rfl rfl ?_ ?_
      · go_wp2_with fail
        refine (HLD1.out _ HS.out.fr).mono ?_
        rintro e w9 ⟨rfl, hf⟩
        have HF := Lib.hid (HF.out.trans hf)
        have HS := Lib.hid (HS.out.fr0 hf); clear hf
        go_wp2_with fail
        refine ⟨⟨⟨_, (by exact HF.out)⟩, rfl⟩, ?_⟩
        refine step_pures (N := 3) [5, 6, 7] (by kernel_rfl) ?_
        simp only [theOps, nthOp, List.map_cons, List.map_nil, Array.getD_eq_getD_getElem?, List.getElem?_toArray, List.getElem?_cons_succ, List.getElem?_cons_zero, Option.getD_some]
        repeat (first | go_big_quiet_step (fail) | quiet_step (fail))
        refine wpQuiet_nil ?_
        refine step_keep (N := 2) 8 (by kernel_rfl) rfl ?_
        go_wp2_with fail
        have hf := Fr.alloc HF.out (.cells ([.int .u64 0, .int .u64 0]).toArray 41)
        have hS := HS.out.new 41 ([.int .u64 0, .int .u64 0])
        have HF := Lib.hid hf; have HS := Lib.hid hS; clear hf hS
        refine ⟨⟨⟨_, (by exact HF.out)⟩, rfl⟩, ?_⟩
        generalize World.alloc _ _ = wn1 at HF HS ⊢
        generalize w9.heap.size = X at HS ⊢
        refine step_hard (N := 1) 9 (by kernel_rfl) rfl ?_
        refine wpList_store_sep HS.out 2 rfl tl1 47 _ _ rfl rfl rfl rfl (by rw [T1.out.len, T0.out.len]) (by rw [T1.out.len]; kernel_rfl) T1.out.one (fun wA hA _ => ?_)
        have HS := Lib.hid hA; clear hA
        simp only [List.set_cons_zero, List.set_cons_succ] at HS
        go_wp2_with fail
        refine step_hard (N := 0) 10 (by kernel_rfl) rfl ?_
        refine wpList_store_sep HS.out 0 rfl [.int .u64 nv, .int .u64 ns] 41 _ _ rfl rfl rfl rfl rfl (by kernel_rfl) HO1 (fun wA hA _ => ?_)
        have HS := Lib.hid hA; clear hA
        simp only [List.set_cons_zero, List.set_cons_succ] at HS
        go_wp2_with fail
        refine step_done (by kernel_rfl) ?_
        exact HR X _ HS.out
      · go_wp2_with fail
        have hf := Fr.alloc HF.out (.cells ([.int .u64 0, .int .u64 0]).toArray 41)
        have hS := HS.out.new 41 ([.int .u64 0, .int .u64 0])
        have HF := Lib.hid hf; have HS := Lib.hid hS; clear hf hS
        refine ⟨⟨⟨_, (by exact HF.out)⟩, rfl⟩, ?_⟩
        generalize World.alloc _ _ = wn2 at HF HS ⊢
        generalize w9.heap.size = X at HS ⊢
        refine step_keep (N := 5) 4 (by kernel_rfl) rfl ?_
        go_wp2_with fail
        refine (HLD1.out _ HS.out.fr).mono ?_
        rintro e w9 ⟨rfl, hf⟩
        have HF := Lib.hid (HF.out.trans hf)
        have HS := Lib.hid (HS.out.fr0 hf); clear hf
        go_wp2_with fail
        refine ⟨⟨⟨_, (by exact HF.out)⟩, rfl⟩, ?_⟩
        refine step_pures (N := 2) [5, 6, 7] (by kernel_rfl) ?_
        simp only [theOps, nthOp, List.map_cons, List.map_nil, Array.getD_eq_getD_getElem?, List.getElem?_toArray, List.getElem?_cons_succ, List.getElem?_cons_zero, Option.getD_some]
        repeat (first | go_big_quiet_step (fail) | quiet_step (fail))
        refine wpQuiet_nil ?_
        refine step_hard (N := 1) 9 (by kernel_rfl) rfl ?_
        refine wpList_store_sep HS.out 2 rfl tl1 47 _ _ rfl rfl rfl rfl (by rw [T1.out.len, T0.out.len]) (by rw [T1.out.len]; kernel_rfl) T1.out.one (fun wA hA _ => ?_)
        have HS := Lib.hid hA; clear hA
        simp only [List.set_cons_zero, List.set_cons_succ] at HS
        go_wp2_with fail
        refine step_hard (N := 0) 10 (by kernel_rfl) rfl ?_
        refine wpList_store_sep HS.out 0 rfl [.int .u64 nv, .int .u64 ns] 41 _ _ rfl rfl rfl rfl rfl (by kernel_rfl) HO1 (fun wA hA _ => ?_)
        have HS := Lib.hid hA; clear hA
        simp only [List.set_cons_zero, List.set_cons_succ] at HS
        go_wp2_with fail
        refine step_done (by kernel_rfl) ?_
        exact HR X _ HS.out
    · go_wp2_with fail
      have hf := Fr.alloc HF.out (.cells ([.int .u64 0, .int .u64 0]).toArray 41)
      have hS := HS.out.new 41 ([.int .u64 0, .int .u64 0])
      have HF := Lib.hid hf; have HS := Lib.hid hS; clear hf hS
      refine ⟨⟨⟨_, (by exact HF.out)⟩, rfl⟩, ?_⟩
      generalize World.alloc _ _ = wn3 at HF HS ⊢
      generalize wd.heap.size = X at HS ⊢
      refine step_keep (N := 6) 3 (by kernel_rfl) rfl ?_
      go_wp2_with fail
      refine (HA5.out _).mono ?_
      rintro e w9 ⟨rfl, hf⟩
      have HF := Lib.hid (HF.out.trans hf)
      have HS := Lib.hid (HS.out.fr0 hf); clear hf
      go_wp2_with fail
      refine ⟨⟨⟨_, (by exact HF.out)⟩, rfl⟩, ?_⟩
      refine step_keep (N := 5) 4 (by kernel_rfl) rfl ?_
      go_wp2_with fail
      refine (HLD1.out _ HS.out.fr).mono ?_
      rintro e w9 ⟨rfl, hf⟩
      have HF := Lib.hid (HF.out.trans hf)
      have HS := Lib.hid (HS.out.fr0 hf); clear hf
      go_wp2_with fail
      refine ⟨⟨⟨_, (by exact HF.out)⟩, rfl⟩, ?_⟩
      refine step_pures (N := 2) [5, 6, 7] (by kernel_rfl) ?_
      simp only [theOps, nthOp, List.map_cons, List.map_nil, Array.getD_eq_getD_getElem?, List.getElem?_toArray, List.getElem?_cons_succ, List.getElem?_cons_zero, Option.getD_some]
      repeat (first | go_big_quiet_step (fail) | quiet_step (fail))
      refine wpQuiet_nil ?_
      refine step_hard (N := 1) 9 (by kernel_rfl) rfl ?_
      refine wpList_store_sep HS.out 2 rfl tl1 47 _ _ rfl rfl rfl rfl (by rw [T1.out.len, T0.out.len]) (by rw [T1.out.len]; kernel_rfl) T1.out.one (fun wA hA _ => ?_)
      have HS := Lib.hid hA; clear hA
      simp only [List.set_cons_zero, List.set_cons_succ] at HS
      go_wp2_with fail
      refine step_hard (N := 0) 10 (by kernel_rfl) rfl ?_
      refine wpList_store_sep HS.out 0 rfl [.int .u64 nv, .int .u64 ns] 41 _ _ rfl rfl rfl rfl rfl (by kernel_rfl) HO1 (fun wA hA _ => ?_)
      have HS := Lib.hid hA; clear hA
      simp only [List.set_cons_zero, List.set_cons_succ] at HS
      go_wp2_with fail
      refine step_done (by kernel_rfl) ?_
      exact HR X _ HS.out
  · clear HS HF HA5 HLD1 T0
    intro X wF hS
    have HS := Lib.hid (hS.emptyRow8 177 2); clear hS
    go_wp2_with fail
    rw [HTL1.out] at HS
    go_loopg [9, 10] capN (fun gg vr vi wr => ∃ (k : Nat) (tk : Tp) (acc : List (Int × Int)), gg + k = capN ∧ vi = .int .i64 (k : Int) ∧ acc.length = k ∧ H.copyG c owner l nv gg k tk acc = FIN ∧ tk.at_ ≤ 1001 + k ∧ Sep w wr [rowT 0 177 2 vr k (flat enE acc), blkT X 41 [.int .u64 nv, .int .u64 ns], blkT (w.heap.size + 1 + 1) 47 [.slice none 0 0, .int .i64 0, .int .i64 0, .int .i64 0, .int .u64 0, .int .u64 0, .int .u64 0, .int .u64 0, .bool false], blkT (w.heap.size + 1) 47 (tapeL (.slice oa n oc) tk), blkT w.heap.size 24 cl])
    case atStart => exact ⟨0, t1, [], by omega, rfl, rfl, HFIN.out, by omega, HS.out⟩
    case round =>
      clear HS HTL1 T1 HFIN
      obtain ⟨k, tk, acc, hgk, rfl, hacc, hEQ, hat, hS⟩ := hrel
      obtain ⟨ra, rc, rfl⟩ := hS.form 0 rfl
      have T3 := Lib.hid (HTF.out tk)
      have HACC := Lib.hid hacc
      have hkw : IntKind.u64.wrap (k : Int) = (k : Int) := by rw [IntKind.wrap_u64]; have := HCN.out; omega
      by_cases hin : k < capN ∧ (k : Int) < nv ∧ tk.need = false
      · obtain ⟨hk1, hk2, hk3⟩ := hin
        have hki : (k : Int) < cp := by have := HCN.out; omega
        obtain ⟨g', hg'⟩ : ∃ g', gk = g' + 1 := ⟨gk - 1, by omega⟩
        have hEQ2 : H.copyG c owner l nv g' (k + 1) (tk.step l.length (H.ldOp (at_ c 6 owner k))) (acc ++ [(H.placeOf (tk.out l).s, (tk.out l).v)]) = FIN := by
          rw [hg'] at hEQ
          unfold H.copyG at hEQ
          rw [if_pos ⟨hk2, hk3⟩] at hEQ
          exact hEQ
        rw [hl] at hEQ2
        have hgo := HOG.out tk
        have HA6 := Lib.hid (fun w => HA6k.out w k)
        generalize at_ c 6 owner k = p6 at *
        have HLD2 : Hid (∀ w', Fr [] w w' → _) := fun w' f => HLDA.out tk p6 w' (by omega) f
        have hat2 := HSA.out tk (H.ldOp p6)
        have T4 := Lib.hid (HTF.out (tk.step n (H.ldOp p6)))
        have n8 := ((hS.blk 3 rfl).cell 8).trans T3.out.need
        have n8l := (hS.blk 3 rfl).lt
        rw [hk3] at n8
        have v0 := (hS.blk 1 rfl).cell 0
        have v0l := (hS.blk 1 rfl).lt
        simp only [List.getElem?_cons_zero] at v0
        have HS := Lib.hid hS; clear hS
        generalize tk.step n (H.ldOp p6) = t4 at *
        generalize tk.out l = o4 at *
        obtain ⟨ev, es, ek⟩ := o4
        obtain ⟨q1, q2, q3, q4⟩ := hgo
        dsimp only at q1 q2 q3 q4 HLD2 hEQ2
        have HO4 := enO_hd2 ⟨ev, es, ek⟩
        dsimp only at HO4
        obtain ⟨tlk, htlk⟩ : ∃ x, x = tapeL (.slice oa n oc) tk := ⟨_, rfl⟩
        obtain ⟨tl4, htl4⟩ : ∃ x, x = tapeL (.slice oa n oc) t4 := ⟨_, rfl⟩
        rw [← htlk] at HLD2 T3
        rw [← htl4] at HLD2 T4
        have hS := HS.out
        rw [← htlk] at hS
        have HS := Lib.hid hS; clear hS
        have HT4 := Lib.hid htl4
        have HEQ := Lib.hid hEQ2
        have HND := Lib.hid hk3
        clear htl4 htlk hEQ hEQ2 hk3 hacc
        go_wp2_with (refine wpList_load_any 24 _ rfl rfl _ 0 rfl cl _ (HS.out.blk 4 rfl).range Try.underlying24 rfl (by rw [hsz6]; kernel_rfl) ?_)
        refine (HCP.out _).mono ?_
        rintro e w3 ⟨rfl, hf⟩
        have HS := Lib.hid (HS.out.fr0 hf); clear hf n8 n8l v0 v0l
        have n8 := ((HS.out.blk 3 rfl).cell 8).trans T3.out.need
        rw [HND.out] at n8
        have n8l := (HS.out.blk 3 rfl).lt
        have v0 := (HS.out.blk 1 rfl).cell 0
        have v0l := (HS.out.blk 1 rfl).lt
        simp only [List.getElem?_cons_zero] at v0
        go_wp2_with fail
        clear n8 n8l v0 v0l
        have hmt := (HS.out.blk 3 rfl).drew
        have hmc := (HS.out.blk 4 rfl).drew
        have hlt := T3.out.len
        refine step_start ([4, 5, 9, 10], [11, 12]) [] (by kernel_rfl) ?_
        refine step_reads (N := 9) [0, 1, 2, 3] (by kernel_rfl) ⟨⟨_, Fr.refl _ _⟩, rfl⟩ ?_
        simp only [theOps, nthOp, List.map_cons, List.map_nil, Array.getD_eq_getD_getElem?, List.getElem?_toArray, List.getElem?_cons_succ, List.getElem?_cons_zero, Option.getD_some]
        refine wpQuiet_load_mid 47 _ (w.heap.size + 1) 0 tlk _ rfl rfl rfl (rangeAt_after hmt (by simp <;> omega)) Try.underlying47 rfl (by rw [hlt]; kernel_rfl) ?_
        simp only [Act.put, List.setIfInBounds_toArray, List.set_cons_zero, List.set_cons_succ]
        refine wpQuiet_load_mid 24 _ w.heap.size 0 cl _ rfl rfl rfl (rangeAt_after hmc (by simp)) Try.underlying24 rfl (by rw [hsz6]; kernel_rfl) ?_
        simp only [Act.put, List.setIfInBounds_toArray, List.set_cons_zero, List.set_cons_succ]
        repeat (first | go_big_quiet_step (fail) | quiet_step (fail))
        refine wpQuiet_nil ?_
        have HS := Lib.hid HS.out.drew
        clear hmt hmc hlt
        generalize World.drew _ = wd at HS ⊢
        have HF := Lib.hid (Fr.refl [] wd)
        apply join_of2 (S := fun X2 Y2 wF => Sep w wF [blkT Y2 41 [.int .u64 ev, .int .u64 es], blkT X2 47 tl4, rowT 0 177 2 (.slice ra k rc) k (flat enE acc), blkT X 41 [.int .u64 nv, .int .u64 ns], blkT (w.heap.size + 1 + 1) 47 [.slice none 0 0, .int .i64 0, .int .i64 0, .int .i64 0, .int .u64 0, .int .u64 0, .int .u64 0, .int .u64 0, .bool false], blkT (w.heap.size + 1) 47 tlk, blkT w.heap.size 24 cl])
        · intro HR
          refine step_three (N := 8) 4 9 10 (by kernel_rfl) rfl rfl rfl ?_ ?_ ?_
          · go_wp2_with fail
            refine (HA6.out _).mono ?_
            rintro e w9 ⟨rfl, hf⟩
            have HF := Lib.hid (HF.out.trans hf)
            have HS := Lib.hid (HS.out.fr0 hf); clear hf
            go_wp2_with fail
            refine ⟨⟨⟨_, (by exact HF.out)⟩, rfl⟩, ?_⟩
            refine step_three (N := 7) 5 9 10 (by kernel_rfl) rfl rfl rfl ?_ ?_ ?_
            · go_wp2_with fail
              refine (HLD2.out _ HS.out.fr).mono ?_
              rintro e w9 ⟨rfl, hf⟩
              have HF := Lib.hid (HF.out.trans hf)
              have HS := Lib.hid (HS.out.fr0 hf); clear hf
              go_wp2_with fail
              refine ⟨⟨⟨_, (by exact HF.out)⟩, rfl⟩, ?_⟩
              refine step_pures (N := 4) [6, 7, 8] (by kernel_rfl) ?_
              simp only [theOps, nthOp, List.map_cons, List.map_nil, Array.getD_eq_getD_getElem?, List.getElem?_toArray, List.getElem?_cons_succ, List.getElem?_cons_zero, Option.getD_some]
              repeat (first | go_big_quiet_step (fail) | quiet_step (fail))
              refine wpQuiet_nil ?_
              refine step_two (N := 3) 9 10 (by kernel_rfl) rfl rfl ?_ ?_
              · go_wp2_with fail
                have hf := Fr.alloc HF.out (.cells ([.slice none 0 0, .int .i64 0, .int .i64 0, .int .i64 0, .int .u64 0, .int .u64 0, .int .u64 0, .int .u64 0, .bool false]).toArray 47)
                have hS := HS.out.new 47 ([.slice none 0 0, .int .i64 0, .int .i64 0, .int .i64 0, .int .u64 0, .int .u64 0, .int .u64 0, .int .u64 0, .bool false])
                have HF := Lib.hid hf; have HS := Lib.hid hS; clear hf hS
                refine ⟨⟨⟨_, (by exact HF.out)⟩, rfl⟩, ?_⟩
                generalize World.alloc _ _ = wn1 at HF HS ⊢
                generalize w9.heap.size = X2 at HS ⊢
                refine step_keep (N := 2) 10 (by kernel_rfl) rfl ?_
                go_wp2_with fail
                have hf := Fr.alloc HF.out (.cells ([.int .u64 0, .int .u64 0]).toArray 41)
                have hS := HS.out.new 41 ([.int .u64 0, .int .u64 0])
                have HF := Lib.hid hf; have HS := Lib.hid hS; clear hf hS
                refine ⟨⟨⟨_, (by exact HF.out)⟩, rfl⟩, ?_⟩
                generalize World.alloc _ _ = wn2 at HF HS ⊢
                generalize wn1.heap.size = Y2 at HS ⊢
                refine step_hard (N := 1) 11 (by kernel_rfl) rfl ?_
                refine wpList_store_sep HS.out 1 rfl tl4 47 _ _ rfl rfl rfl rfl (by rw [T4.out.len]; rfl) (by rw [T4.out.len]; kernel_rfl) T4.out.one (fun wA hA _ => ?_)
                have HS := Lib.hid hA; clear hA
                simp only [List.set_cons_zero, List.set_cons_succ] at HS
                go_wp2_with fail
                refine step_hard (N := 0) 12 (by kernel_rfl) rfl ?_
                refine wpList_store_sep HS.out 0 rfl [.int .u64 ev, .int .u64 es] 41 _ _ rfl rfl rfl rfl rfl (by kernel_rfl) HO4 (fun wA hA _ => ?_)
                have HS := Lib.hid hA; clear hA
                simp only [List.set_cons_zero, List.set_cons_succ] at HS
                go_wp2_with fail
                refine step_done (by kernel_rfl) ?_
                exact HR X2 Y2 _ HS.out
              · go_wp2_with fail
                have hf := Fr.alloc HF.out (.cells ([.int .u64 0, .int .u64 0]).toArray 41)
                have hS := HS.out.new 41 ([.int .u64 0, .int .u64 0])
                have HF := Lib.hid hf; have HS := Lib.hid hS; clear hf hS
                refine ⟨⟨⟨_, (by exact HF.out)⟩, rfl⟩, ?_⟩
                generalize World.alloc _ _ = wn3 at HF HS ⊢
                generalize w9.heap.size = Y2 at HS ⊢
                refine step_keep (N := 2) 9 (by kernel_rfl) rfl ?_
                go_wp2_with fail
                have hf := Fr.alloc HF.out (.cells ([.slice none 0 0, .int .i64 0, .int .i64 0, .int .i64 0, .int .u64 0, .int .u64 0, .int .u64 0, .int .u64 0, .bool false]).toArray 47)
                have hS := HS.out.new 47 ([.slice none 0 0, .int .i64 0, .int .i64 0, .int .i64 0, .int .u64 0, .int .u64 0, .int .u64 0, .int .u64 0, .bool false])
                have HF := Lib.hid hf; have HS := Lib.hid hS; clear hf hS
                refine ⟨⟨⟨_, (by exact HF.out)⟩, rfl⟩, ?_⟩
                generalize World.alloc _ _ = wn4 at HF HS ⊢
                generalize wn3.heap.size = X2 at HS ⊢
                have HS := Lib.hid (HS.out.sub (Ts' := [_, _, _, _, _, _, _]) [1, 0, 2, 3, 4, 5, 6] rfl (by decide))
                refine step_hard (N := 1) 11 (by kernel_rfl) rfl ?_
                refine wpList_store_sep HS.out 1 rfl tl4 47 _ _ rfl rfl rfl rfl (by rw [T4.out.len]; rfl) (by rw [T4.out.len]; kernel_rfl) T4.out.one (fun wA hA _ => ?_)
                have HS := Lib.hid hA; clear hA
                simp only [List.set_cons_zero, List.set_cons_succ] at HS
                go_wp2_with fail
                refine step_hard (N := 0) 12 (by kernel_rfl) rfl ?_
                refine wpList_store_sep HS.out 0 rfl [.int .u64 ev, .int .u64 es] 41 _ _ rfl rfl rfl rfl rfl (by kernel_rfl) HO4 (fun wA hA _ => ?_)
                have HS := Lib.hid hA; clear hA
                simp only [List.set_cons_zero, List.set_cons_succ] at HS
                go_wp2_with fail
                refine step_done (by kernel_rfl) ?_
                exact HR X2 Y2 _ HS.out
            · go_wp2_with fail
              have hf := Fr.alloc HF.out (.cells ([.slice none 0 0, .int .i64 0, .int .i64 0, .int .i64 0, .int .u64 0, .int .u64 0, .int .u64 0, .int .u64 0, .bool false]).toArray 47)
              have hS := HS.out.new 47 ([.slice none 0 0, .int .i64 0, .int .i64 0, .int .i64 0, .int .u64 0, .int .u64 0, .int .u64 0, .int .u64 0, .bool false])
              have HF := Lib.hid hf; have HS := Lib.hid hS; clear hf hS
              refine ⟨⟨⟨_, (by exact HF.out)⟩, rfl⟩, ?_⟩
              generalize World.alloc _ _ = wn5 at HF HS ⊢
              generalize w9.heap.size = X2 at HS ⊢
              refine step_two (N := 6) 5 10 (by kernel_rfl) rfl rfl ?_ ?_
              · go_wp2_with fail
                refine (HLD2.out _ HS.out.fr).mono ?_
                rintro e w9 ⟨rfl, hf⟩
                have HF := Lib.hid (HF.out.trans hf)
                have HS := Lib.hid (HS.out.fr0 hf); clear hf
                go_wp2_with fail
                refine ⟨⟨⟨_, (by exact HF.out)⟩, rfl⟩, ?_⟩
                refine step_pures (N := 3) [6, 7, 8] (by kernel_rfl) ?_
                simp only [theOps, nthOp, List.map_cons, List.map_nil, Array.getD_eq_getD_getElem?, List.getElem?_toArray, List.getElem?_cons_succ, List.getElem?_cons_zero, Option.getD_some]
                repeat (first | go_big_quiet_step (fail) | quiet_step (fail))
                refine wpQuiet_nil ?_
                refine step_keep (N := 2) 10 (by kernel_rfl) rfl ?_
                go_wp2_with fail
                have hf := Fr.alloc HF.out (.cells ([.int .u64 0, .int .u64 0]).toArray 41)
                have hS := HS.out.new 41 ([.int .u64 0, .int .u64 0])
                have HF := Lib.hid hf; have HS := Lib.hid hS; clear hf hS
                refine ⟨⟨⟨_, (by exact HF.out)⟩, rfl⟩, ?_⟩
                generalize World.alloc _ _ = wn6 at HF HS ⊢
                generalize w9.heap.size = Y2 at HS ⊢
                refine step_hard (N := 1) 11 (by kernel_rfl) rfl ?_
                refine wpList_store_sep HS.out 1 rfl tl4 47 _ _ rfl rfl rfl rfl (by rw [T4.out.len]; rfl) (by rw [T4.out.len]; kernel_rfl) T4.out.one (fun wA hA _ => ?_)
                have HS := Lib.hid hA; clear hA
                simp only [List.set_cons_zero, List.set_cons_succ] at HS
                go_wp2_with fail
                refine step_hard (N := 0) 12 (by kernel_rfl) rfl ?_
                refine wpList_store_sep HS.out 0 rfl [.int .u64 ev, .int .u64 es] 41 _ _ rfl rfl rfl rfl rfl (by kernel_rfl) HO4 (fun wA hA _ => ?_)
                have HS := Lib.hid hA; clear hA
                simp only [List.set_cons_zero, List.set_cons_succ] at HS
                go_wp2_with fail
                refine step_done (by kernel_rfl) ?_
                exact HR X2 Y2 _ HS.out
              · go_wp2_with fail
                have hf := Fr.alloc HF.out (.cells ([.int .u64 0, .int .u64 0]).toArray 41)
                have hS := HS.out.new 41 ([.int .u64 0, .int .u64 0])
                have HF := Lib.hid hf; have HS := Lib.hid hS; clear hf hS
                refine ⟨⟨⟨_, (by exact HF.out)⟩, rfl⟩, ?_⟩
                generalize World.alloc _ _ = wn7 at HF HS ⊢
                generalize wn5.heap.size = Y2 at HS ⊢
                refine step_keep (N := 5) 5 (by kernel_rfl) rfl ?_
                go_wp2_with fail
                refine (HLD2.out _ HS.out.fr).mono ?_
                rintro e w9 ⟨rfl, hf⟩
                have HF := Lib.hid (HF.out.trans hf)
                have HS := Lib.hid (HS.out.fr0 hf); clear hf
                go_wp2_with fail
                refine ⟨⟨⟨_, (by exact HF.out)⟩, rfl⟩, ?_⟩
                refine step_pures (N := 2) [6, 7, 8] (by kernel_rfl) ?_
                simp only [theOps, nthOp, List.map_cons, List.map_nil, Array.getD_eq_getD_getElem?, List.getElem?_toArray, List.getElem?_cons_succ, List.getElem?_cons_zero, Option.getD_some]
                repeat (first | go_big_quiet_step (fail) | quiet_step (fail))
                refine wpQuiet_nil ?_
                refine step_hard (N := 1) 11 (by kernel_rfl) rfl ?_
                refine wpList_store_sep HS.out 1 rfl tl4 47 _ _ rfl rfl rfl rfl (by rw [T4.out.len]; rfl) (by rw [T4.out.len]; kernel_rfl) T4.out.one (fun wA hA _ => ?_)
                have HS := Lib.hid hA; clear hA
                simp only [List.set_cons_zero, List.set_cons_succ] at HS
                go_wp2_with fail
                refine step_hard (N := 0) 12 (by kernel_rfl) rfl ?_
                refine wpList_store_sep HS.out 0 rfl [.int .u64 ev, .int .u64 es] 41 _ _ rfl rfl rfl rfl rfl (by kernel_rfl) HO4 (fun wA hA _ => ?_)
                have HS := Lib.hid hA; clear hA
                simp only [List.set_cons_zero, List.set_cons_succ] at HS
                go_wp2_with fail
                refine step_done (by kernel_rfl) ?_
                exact HR X2 Y2 _ HS.out
            · go_wp2_with fail
              have hf := Fr.alloc HF.out (.cells ([.int .u64 0, .int .u64 0]).toArray 41)
              have hS := HS.out.new 41 ([.int .u64 0, .int .u64 0])
              have HF := Lib.hid hf; have HS := Lib.hid hS; clear hf hS
              refine ⟨⟨⟨_, (by exact HF.out)⟩, rfl⟩, ?_⟩
              generalize World.alloc _ _ = wn8 at HF HS ⊢
              generalize w9.heap.size = Y2 at HS ⊢
              refine step_two (N := 6) 5 9 (by kernel_rfl) rfl rfl ?_ ?_
              · go_wp2_with fail
                refine (HLD2.out _ HS.out.fr).mono ?_
                rintro e w9 ⟨rfl, hf⟩
                have HF := Lib.hid (HF.out.trans hf)
                have HS := Lib.hid (HS.out.fr0 hf); clear hf
                go_wp2_with fail
                refine ⟨⟨⟨_, (by exact HF.out)⟩, rfl⟩, ?_⟩
                refine step_pures (N := 3) [6, 7, 8] (by kernel_rfl) ?_
                simp only [theOps, nthOp, List.map_cons, List.map_nil, Array.getD_eq_getD_getElem?, List.getElem?_toArray, List.getElem?_cons_succ, List.getElem?_cons_zero, Option.getD_some]
                repeat (first | go_big_quiet_step (fail) | quiet_step (fail))
                refine wpQuiet_nil ?_
                refine step_keep (N := 2) 9 (by kernel_rfl) rfl ?_
                go_wp2_with fail
                have hf := Fr.alloc HF.out (.cells ([.slice none 0 0, .int .i64 0, .int .i64 0, .int .i64 0, .int .u64 0, .int .u64 0, .int .u64 0, .int .u64 0, .bool false]).toArray 47)
                have hS := HS.out.new 47 ([.slice none 0 0, .int .i64 0, .int .i64 0, .int .i64 0, .int .u64 0, .int .u64 0, .int .u64 0, .int .u64 0, .bool false])
                have HF := Lib.hid hf; have HS := Lib.hid hS; clear hf hS
                refine ⟨⟨⟨_, (by exact HF.out)⟩, rfl⟩, ?_⟩
                generalize World.alloc _ _ = wn9 at HF HS ⊢
                generalize w9.heap.size = X2 at HS ⊢
                have HS := Lib.hid (HS.out.sub (Ts' := [_, _, _, _, _, _, _]) [1, 0, 2, 3, 4, 5, 6] rfl (by decide))
                refine step_hard (N := 1) 11 (by kernel_rfl) rfl ?_
                refine wpList_store_sep HS.out 1 rfl tl4 47 _ _ rfl rfl rfl rfl (by rw [T4.out.len]; rfl) (by rw [T4.out.len]; kernel_rfl) T4.out.one (fun wA hA _ => ?_)
                have HS := Lib.hid hA; clear hA
                simp only [List.set_cons_zero, List.set_cons_succ] at HS
                go_wp2_with fail
                refine step_hard (N := 0) 12 (by kernel_rfl) rfl ?_
                refine wpList_store_sep HS.out 0 rfl [.int .u64 ev, .int .u64 es] 41 _ _ rfl rfl rfl rfl rfl (by kernel_rfl) HO4 (fun wA hA _ => ?_)
                have HS := Lib.hid hA; clear hA
                simp only [List.set_cons_zero, List.set_cons_succ] at HS
                go_wp2_with fail
                refine step_done (by kernel_rfl) ?_
                exact HR X2 Y2 _ HS.out
              · go_wp2_with fail
                have hf := Fr.alloc HF.out (.cells ([.slice none 0 0, .int .i64 0, .int .i64 0, .int .i64 0, .int .u64 0, .int .u64 0, .int .u64 0, .int .u64 0, .bool false]).toArray 47)
                have hS := HS.out.new 47 ([.slice none 0 0, .int .i64 0, .int .i64 0, .int .i64 0, .int .u64 0, .int .u64 0, .int .u64 0, .int .u64 0, .bool false])
                have HF := Lib.hid hf; have HS := Lib.hid hS; clear hf hS
                refine ⟨⟨⟨_, (by exact HF.out)⟩, rfl⟩, ?_⟩
                generalize World.alloc _ _ = wn10 at HF HS ⊢
                generalize wn8.heap.size = X2 at HS ⊢
                refine step_keep (N := 5) 5 (by kernel_rfl) rfl ?_
                go_wp2_with fail
                refine (HLD2.out _ HS.out.fr).mono ?_
                rintro e w9 ⟨rfl, hf⟩
                have HF := Lib.hid (HF.out.trans hf)
                have HS := Lib.hid (HS.out.fr0 hf); clear hf
                go_wp2_with fail
                refine ⟨⟨⟨_, (by exact HF.out)⟩, rfl⟩, ?_⟩
                refine step_pures (N := 2) [6, 7, 8] (by kernel_rfl) ?_
                simp only [theOps, nthOp, List.map_cons, List.map_nil, Array.getD_eq_getD_getElem?, List.getElem?_toArray, List.getElem?_cons_succ, List.getElem?_cons_zero, Option.getD_some]
                repeat (first | go_big_quiet_step (fail) | quiet_step (fail))
                refine wpQuiet_nil ?_
                have HS := Lib.hid (HS.out.sub (Ts' := [_, _, _, _, _, _, _]) [1, 0, 2, 3, 4, 5, 6] rfl (by decide))
                refine step_hard (N := 1) 11 (by kernel_rfl) rfl ?_
                refine wpList_store_sep HS.out 1 rfl tl4 47 _ _ rfl rfl rfl rfl (by rw [T4.out.len]; rfl) (by rw [T4.out.len]; kernel_rfl) T4.out.one (fun wA hA _ => ?_)
                have HS := Lib.hid hA; clear hA
                simp only [List.set_cons_zero, List.set_cons_succ] at HS
                go_wp2_with fail
                refine step_hard (N := 0) 12 (by kernel_rfl) rfl ?_
                refine wpList_store_sep HS.out 0 rfl [.int .u64 ev, .int .u64 es] 41 _ _ rfl rfl rfl rfl rfl (by kernel_rfl) HO4 (fun wA hA _ => ?_)
                have HS := Lib.hid hA; clear hA
                simp only [List.set_cons_zero, List.set_cons_succ] at HS
                go_wp2_with fail
                refine step_done (by kernel_rfl) ?_
                exact HR X2 Y2 _ HS.out
          · go_wp2_with fail
            have hf := Fr.alloc HF.out (.cells ([.slice none 0 0, .int .i64 0, .int .i64 0, .int .i64 0, .int .u64 0, .int .u64 0, .int .u64 0, .int .u64 0, .bool false]).toArray 47)
            have hS := HS.out.new 47 ([.slice none 0 0, .int .i64 0, .int .i64 0, .int .i64 0, .int .u64 0, .int .u64 0, .int .u64 0, .int .u64 0, .bool false])
            have HF := Lib.hid hf; have HS := Lib.hid hS; clear hf hS
            refine ⟨⟨⟨_, (by exact HF.out)⟩, rfl⟩, ?_⟩
            generalize World.alloc _ _ = wn11 at HF HS ⊢
            generalize wd.heap.size = X2 at HS ⊢
            refine step_two (N := 7) 4 10 (by kernel_rfl) rfl rfl ?_ ?_
            · go_wp2_with fail
              refine (HA6.out _).mono ?_
              rintro e w9 ⟨rfl, hf⟩
              have HF := Lib.hid (HF.out.trans hf)
              have HS := Lib.hid (HS.out.fr0 hf); clear hf
              go_wp2_with fail
              refine ⟨⟨⟨_, (by exact HF.out)⟩, rfl⟩, ?_⟩
              refine step_two (N := 6) 5 10 (by kernel_rfl) rfl rfl ?_ ?_
              · go_wp2_with fail
                refine (HLD2.out _ HS.out.fr).mono ?_
                rintro e w9 ⟨rfl, hf⟩
                have HF := Lib.hid (HF.out.trans hf)
                have HS := Lib.hid (HS.out.fr0 hf); clear hf
                go_wp2_with fail
                refine ⟨⟨⟨_, (by exact HF.out)⟩, rfl⟩, ?_⟩
                refine step_pures (N := 3) [6, 7, 8] (by kernel_rfl) ?_
                simp only [theOps, nthOp, List.map_cons, List.map_nil, Array.getD_eq_getD_getElem?, List.getElem?_toArray, List.getElem?_cons_succ, List.getElem?_cons_zero, Option.getD_some]
                repeat (first | go_big_quiet_step (fail) | quiet_step (fail))
                refine wpQuiet_nil ?_
                refine step_keep (N := 2) 10 (by kernel_rfl) rfl ?_
                go_wp2_with fail
                have hf := Fr.alloc HF.out (.cells ([.int .u64 0, .int .u64 0]).toArray 41)
                have hS := HS.out.new 41 ([.int .u64 0, .int .u64 0])
                have HF := Lib.hid hf; have HS := Lib.hid hS; clear hf hS
                refine ⟨⟨⟨_, (by exact HF.out)⟩, rfl⟩, ?_⟩
                generalize World.alloc _ _ = wn12 at HF HS ⊢
                generalize w9.heap.size = Y2 at HS ⊢
                refine step_hard (N := 1) 11 (by kernel_rfl) rfl ?_
                refine wpList_store_sep HS.out 1 rfl tl4 47 _ _ rfl rfl rfl rfl (by rw [T4.out.len]; rfl) (by rw [T4.out.len]; kernel_rfl) T4.out.one (fun wA hA _ => ?_)
                have HS := Lib.hid hA; clear hA
                simp only [List.set_cons_zero, List.set_cons_succ] at HS
                go_wp2_with fail
                refine step_hard (N := 0) 12 (by kernel_rfl) rfl ?_
                refine wpList_store_sep HS.out 0 rfl [.int .u64 ev, .int .u64 es] 41 _ _ rfl rfl rfl rfl rfl (by kernel_rfl) HO4 (fun wA hA _ => ?_)
                have HS := Lib.hid hA; clear hA
                simp only [List.set_cons_zero, List.set_cons_succ] at HS
                go_wp2_with fail
                refine step_done (by kernel_rfl) ?_
                exact HR X2 Y2 _ HS.out
              · go_wp2_with fail
                have hf := Fr.alloc HF.out (.cells ([.int .u64 0, .int .u64 0]).toArray 41)
                have hS := HS.out.new 41 ([.int .u64 0, .int .u64 0])
                have HF := Lib.hid hf; have HS := Lib.hid hS; clear hf hS
                refine ⟨⟨⟨_, (by exact HF.out)⟩, rfl⟩, ?_⟩
                generalize World.alloc _ _ = wn13 at HF HS ⊢
                generalize w9.heap.size = Y2 at HS ⊢
                refine step_keep (N := 5) 5 (by kernel_rfl) rfl ?_
                go_wp2_with fail
                refine (HLD2.out _ HS.out.fr).mono ?_
                rintro e w9 ⟨rfl, hf⟩
                have HF := Lib.hid (HF.out.trans hf)
                have HS := Lib.hid (HS.out.fr0 hf); clear hf
                go_wp2_with fail
                refine ⟨⟨⟨_, (by exact HF.out)⟩, rfl⟩, ?_⟩
                refine step_pures (N := 2) [6, 7, 8] (by kernel_rfl) ?_
                simp only [theOps, nthOp, List.map_cons, List.map_nil, Array.getD_eq_getD_getElem?, List.getElem?_toArray, List.getElem?_cons_succ, List.getElem?_cons_zero, Option.getD_some]
                repeat (first | go_big_quiet_step (fail) | quiet_step (fail))
                refine wpQuiet_nil ?_
                refine step_hard (N := 1) 11 (by kernel_rfl) rfl ?_
                refine wpList_store_sep HS.out 1 rfl tl4 47 _ _ rfl rfl rfl rfl (by rw [T4.out.len]; rfl) (by rw [T4.out.len]; kernel_rfl) T4.out.one (fun wA hA _ => ?_)
                have HS := Lib.hid hA; clear hA
                simp only [List.set_cons_zero, List.set_cons_succ] at HS
                go_wp2_with fail
                refine step_hard (N := 0) 12 (by kernel_rfl) rfl ?_
                refine wpList_store_sep HS.out 0 rfl [.int .u64 ev, .int .u64 es] 41 _ _ rfl rfl rfl rfl rfl (by kernel_rfl) HO4 (fun wA hA _ => ?_)
                have HS := Lib.hid hA; clear hA
                simp only [List.set_cons_zero, List.set_cons_succ] at HS
                go_wp2_with fail
                refine step_done (by kernel_rfl) ?_
                exact HR X2 Y2 _ HS.out
            · go_wp2_with fail
              have hf := Fr.alloc HF.out (.cells ([.int .u64 0, .int .u64 0]).toArray 41)
              have hS := HS.out.new 41 ([.int .u64 0, .int .u64 0])
              have HF := Lib.hid hf; have HS := Lib.hid hS; clear hf hS
              refine ⟨⟨⟨_, (by exact HF.out)⟩, rfl⟩, ?_⟩
              generalize World.alloc _ _ = wn14 at HF HS ⊢
              generalize wn11.heap.size = Y2 at HS ⊢
              refine step_keep (N := 6) 4 (by kernel_rfl) rfl ?_
              go_wp2_with fail
              refine (HA6.out _).mono ?_
              rintro e w9 ⟨rfl, hf⟩
              have HF := Lib.hid (HF.out.trans hf)
              have HS := Lib.hid (HS.out.fr0 hf); clear hf
              go_wp2_with fail
              refine ⟨⟨⟨_, (by exact HF.out)⟩, rfl⟩, ?_⟩
              refine step_keep (N := 5) 5 (by kernel_rfl) rfl ?_
              go_wp2_with fail
              refine (HLD2.out _ HS.out.fr).mono ?_
              rintro e w9 ⟨rfl, hf⟩
              have HF := Lib.hid (HF.out.trans hf)
              have HS := Lib.hid (HS.out.fr0 hf); clear hf
              go_wp2_with fail
              refine ⟨⟨⟨_, (by exact HF.out)⟩, rfl⟩, ?_⟩
              refine step_pures (N := 2) [6, 7, 8] (by kernel_rfl) ?_
              simp only [theOps, nthOp, List.map_cons, List.map_nil, Array.getD_eq_getD_getElem?, List.getElem?_toArray, List.getElem?_cons_succ, List.getElem?_cons_zero, Option.getD_some]
              repeat (first | go_big_quiet_step (fail) | quiet_step (fail))
              refine wpQuiet_nil ?_
              refine step_hard (N := 1) 11 (by kernel_rfl) rfl ?_
              refine wpList_store_sep HS.out 1 rfl tl4 47 _ _ rfl rfl rfl rfl (by rw [T4.out.len]; rfl) (by rw [T4.out.len]; kernel_rfl) T4.out.one (fun wA hA _ => ?_)
              have HS := Lib.hid hA; clear hA
              simp only [List.set_cons_zero, List.set_cons_succ] at HS
              go_wp2_with fail
              refine step_hard (N := 0) 12 (by kernel_rfl) rfl ?_
              refine wpList_store_sep HS.out 0 rfl [.int .u64 ev, .int .u64 es] 41 _ _ rfl rfl rfl rfl rfl (by kernel_rfl) HO4 (fun wA hA _ => ?_)
              have HS := Lib.hid hA; clear hA
              simp only [List.set_cons_zero, List.set_cons_succ] at HS
              go_wp2_with fail
              refine step_done (by kernel_rfl) ?_
              exact HR X2 Y2 _ HS.out
          · go_wp2_with fail
            have hf := Fr.alloc HF.out (.cells ([.int .u64 0, .int .u64 0]).toArray 41)
            have hS := HS.out.new 41 ([.int .u64 0, .int .u64 0])
            have HF := Lib.hid hf; have HS := Lib.hid hS; clear hf hS
            refine ⟨⟨⟨_, (by exact HF.out)⟩, rfl⟩, ?_⟩
            generalize World.alloc _ _ = wn15 at HF HS ⊢
            generalize wd.heap.size = Y2 at HS ⊢
            refine step_two (N := 7) 4 9 (by kernel_rfl) rfl rfl ?_ ?_
            · go_wp2_with fail
              refine (HA6.out _).mono ?_
              rintro e w9 ⟨rfl, hf⟩
              have HF := Lib.hid (HF.out.trans hf)
              have HS := Lib.hid (HS.out.fr0 hf); clear hf
              go_wp2_with fail
              refine ⟨⟨⟨_, (by exact HF.out)⟩, rfl⟩, ?_⟩
              refine step_two (N := 6) 5 9 (by kernel_rfl) rfl rfl ?_ ?_
              · go_wp2_with fail
                refine (HLD2.out _ HS.out.fr).mono ?_
                rintro e w9 ⟨rfl, hf⟩
                have HF := Lib.hid (HF.out.trans hf)
                have HS := Lib.hid (HS.out.fr0 hf); clear hf
                go_wp2_with fail
                refine ⟨⟨⟨_, (by exact HF.out)⟩, rfl⟩, ?_⟩
                refine step_pures (N := 3) [6, 7, 8] (by kernel_rfl) ?_
                simp only [theOps, nthOp, List.map_cons, List.map_nil, Array.getD_eq_getD_getElem?, List.getElem?_toArray, List.getElem?_cons_succ, List.getElem?_cons_zero, Option.getD_some]
                repeat (first | go_big_quiet_step (fail) | quiet_step (fail))
                refine wpQuiet_nil ?_
                refine step_keep (N := 2) 9 (by kernel_rfl) rfl ?_
                go_wp2_with fail
                have hf := Fr.alloc HF.out (.cells ([.slice none 0 0, .int .i64 0, .int .i64 0, .int .i64 0, .int .u64 0, .int .u64 0, .int .u64 0, .int .u64 0, .bool false]).toArray 47)
                have hS := HS.out.new 47 ([.slice none 0 0, .int .i64 0, .int .i64 0, .int .i64 0, .int .u64 0, .int .u64 0, .int .u64 0, .int .u64 0, .bool false])
                have HF := Lib.hid hf; have HS := Lib.hid hS; clear hf hS
                refine ⟨⟨⟨_, (by exact HF.out)⟩, rfl⟩, ?_⟩
                generalize World.alloc _ _ = wn16 at HF HS ⊢
                generalize w9.heap.size = X2 at HS ⊢
                have HS := Lib.hid (HS.out.sub (Ts' := [_, _, _, _, _, _, _]) [1, 0, 2, 3, 4, 5, 6] rfl (by decide))
                refine step_hard (N := 1) 11 (by kernel_rfl) rfl ?_
                refine wpList_store_sep HS.out 1 rfl tl4 47 _ _ rfl rfl rfl rfl (by rw [T4.out.len]; rfl) (by rw [T4.out.len]; kernel_rfl) T4.out.one (fun wA hA _ => ?_)
                have HS := Lib.hid hA; clear hA
                simp only [List.set_cons_zero, List.set_cons_succ] at HS
                go_wp2_with fail
                refine step_hard (N := 0) 12 (by kernel_rfl) rfl ?_
                refine wpList_store_sep HS.out 0 rfl [.int .u64 ev, .int .u64 es] 41 _ _ rfl rfl rfl rfl rfl (by kernel_rfl) HO4 (fun wA hA _ => ?_)
                have HS := Lib.hid hA; clear hA
                simp only [List.set_cons_zero, List.set_cons_succ] at HS
                go_wp2_with fail
                refine step_done (by kernel_rfl) ?_
                exact HR X2 Y2 _ HS.out
              · go_wp2_with fail
                have hf := Fr.alloc HF.out (.cells ([.slice none 0 0, .int .i64 0, .int .i64 0, .int .i64 0, .int .u64 0, .int .u64 0, .int .u64 0, .int .u64 0, .bool false]).toArray 47)
                have hS := HS.out.new 47 ([.slice none 0 0, .int .i64 0, .int .i64 0, .int .i64 0, .int .u64 0, .int .u64 0, .int .u64 0, .int .u64 0, .bool false])
                have HF := Lib.hid hf; have HS := Lib.hid hS; clear hf hS
                refine ⟨⟨⟨_, (by exact HF.out)⟩, rfl⟩, ?_⟩
                generalize World.alloc _ _ = wn17 at HF HS ⊢
                generalize w9.heap.size = X2 at HS ⊢
                refine step_keep (N := 5) 5 (by kernel_rfl) rfl ?_
                go_wp2_with fail
                refine (HLD2.out _ HS.out.fr).mono ?_
                rintro e w9 ⟨rfl, hf⟩
                have HF := Lib.hid (HF.out.trans hf)
                have HS := Lib.hid (HS.out.fr0 hf); clear hf
                go_wp2_with fail
                refine ⟨⟨⟨_, (by exact HF.out)⟩, rfl⟩, ?_⟩
                refine step_pures (N := 2) [6, 7, 8] (by kernel_rfl) ?_
                simp only [theOps, nthOp, List.map_cons, List.map_nil, Array.getD_eq_getD_getElem?, List.getElem?_toArray, List.getElem?_cons_succ, List.getElem?_cons_zero, Option.getD_some]
                repeat (first | go_big_quiet_step (fail) | quiet_step (fail))
                refine wpQuiet_nil ?_
                have HS := Lib.hid (HS.out.sub (Ts' := [_, _, _, _, _, _, _]) [1, 0, 2, 3, 4, 5, 6] rfl (by decide))
                refine step_hard (N := 1) 11 (by kernel_rfl) rfl ?_
                refine wpList_store_sep HS.out 1 rfl tl4 47 _ _ rfl rfl rfl rfl (by rw [T4.out.len]; rfl) (by rw [T4.out.len]; kernel_rfl) T4.out.one (fun wA hA _ => ?_)
                have HS := Lib.hid hA; clear hA
                simp only [List.set_cons_zero, List.set_cons_succ] at HS
                go_wp2_with fail
                refine step_hard (N := 0) 12 (by kernel_rfl) rfl ?_
                refine wpList_store_sep HS.out 0 rfl [.int .u64 ev, .int .u64 es] 41 _ _ rfl rfl rfl rfl rfl (by kernel_rfl) HO4 (fun wA hA _ => ?_)
                have HS := Lib.hid hA; clear hA
                simp only [List.set_cons_zero, List.set_cons_succ] at HS
                go_wp2_with fail
                refine step_done (by kernel_rfl) ?_
                exact HR X2 Y2 _ HS.out
            · go_wp2_with fail
              have hf := Fr.alloc HF.out (.cells ([.slice none 0 0, .int .i64 0, .int .i64 0, .int .i64 0, .int .u64 0, .int .u64 0, .int .u64 0, .int .u64 0, .bool false]).toArray 47)
              have hS := HS.out.new 47 ([.slice none 0 0, .int .i64 0, .int .i64 0, .int .i64 0, .int .u64 0, .int .u64 0, .int .u64 0, .int .u64 0, .bool false])
              have HF := Lib.hid hf; have HS := Lib.hid hS; clear hf hS
              refine ⟨⟨⟨_, (by exact HF.out)⟩, rfl⟩, ?_⟩
              generalize World.alloc _ _ = wn18 at HF HS ⊢
              generalize wn15.heap.size = X2 at HS ⊢
              refine step_keep (N := 6) 4 (by kernel_rfl) rfl ?_
              go_wp2_with fail
              refine (HA6.out _).mono ?_
              rintro e w9 ⟨rfl, hf⟩
              have HF := Lib.hid (HF.out.trans hf)
              have HS := Lib.hid (HS.out.fr0 hf); clear hf
              go_wp2_with fail
              refine ⟨⟨⟨_, (by exact HF.out)⟩, rfl⟩, ?_⟩
              refine step_keep (N := 5) 5 (by kernel_rfl) rfl ?_
              go_wp2_with fail
              refine (HLD2.out _ HS.out.fr).mono ?_
              rintro e w9 ⟨rfl, hf⟩
              have HF := Lib.hid (HF.out.trans hf)
              have HS := Lib.hid (HS.out.fr0 hf); clear hf
              go_wp2_with fail
              refine ⟨⟨⟨_, (by exact HF.out)⟩, rfl⟩, ?_⟩
              refine step_pures (N := 2) [6, 7, 8] (by kernel_rfl) ?_
              simp only [theOps, nthOp, List.map_cons, List.map_nil, Array.getD_eq_getD_getElem?, List.getElem?_toArray, List.getElem?_cons_succ, List.getElem?_cons_zero, Option.getD_some]
              repeat (first | go_big_quiet_step (fail) | quiet_step (fail))
              refine wpQuiet_nil ?_
              have HS := Lib.hid (HS.out.sub (Ts' := [_, _, _, _, _, _, _]) [1, 0, 2, 3, 4, 5, 6] rfl (by decide))
              refine step_hard (N := 1) 11 (by kernel_rfl) rfl ?_
              refine wpList_store_sep HS.out 1 rfl tl4 47 _ _ rfl rfl rfl rfl (by rw [T4.out.len]; rfl) (by rw [T4.out.len]; kernel_rfl) T4.out.one (fun wA hA _ => ?_)
              have HS := Lib.hid hA; clear hA
              simp only [List.set_cons_zero, List.set_cons_succ] at HS
              go_wp2_with fail
              refine step_hard (N := 0) 12 (by kernel_rfl) rfl ?_
              refine wpList_store_sep HS.out 0 rfl [.int .u64 ev, .int .u64 es] 41 _ _ rfl rfl rfl rfl rfl (by kernel_rfl) HO4 (fun wA hA _ => ?_)
              have HS := Lib.hid hA; clear hA
              simp only [List.set_cons_zero, List.set_cons_succ] at HS
              go_wp2_with fail
              refine step_done (by kernel_rfl) ?_
              exact HR X2 Y2 _ HS.out
        · clear HS HF HA6 HLD2
          intro X2 Y2 wF hS
          have HS := Lib.hid hS; clear hS
          have hl4 := T4.out.len
          have ho4 := T4.out.one
          have hlk := T3.out.len
          have e1 := (HS.out.blk 0 rfl).cell 1
          have e1l := (HS.out.blk 0 rfl).lt
          simp only [List.getElem?_cons_zero, List.getElem?_cons_succ] at e1
          have HPL : Hid (∀ pl, pl = H.placeOf es → H.copyG c owner l nv g' (k + 1) t4 (acc ++ [(pl, ev)]) = FIN) := fun pl hpl => by rw [hpl]; exact HEQ.out
          clear HEQ
          have hki2 : k ≤ 5000 := by omega
          by_cases hes : es < 65536
          · have des : decide (es < 65536) = true := by simpa using hes
            have hew : IntKind.i64.wrap es = es := wrap_i64_id _ (by omega) (by omega)
            have HPE := Lib.hid (HPL.out es (by unfold H.placeOf; rw [if_neg (by omega)]))
            go_wp2_with (first | (refine wpList_load_any 47 _ rfl rfl _ 0 rfl tl4 _ (HS.out.blk 1 rfl).range Try.underlying47 rfl (by rw [hl4]; kernel_rfl) ?_) | (refine wpList_store_sep HS.out 5 rfl tl4 47 _ _ rfl rfl rfl rfl (by rw [hl4, hlk]) (by rw [hl4]; kernel_rfl) ho4 (fun wA hA _ => ?_); have e1 := (hA.blk 0 rfl).cell 1; have e0 := (hA.blk 0 rfl).cell 0; have e1l := (hA.blk 0 rfl).lt; simp only [List.set_cons_zero, List.set_cons_succ, List.getElem?_cons_zero, List.getElem?_cons_succ] at e1 e0; have HB := Lib.hid (hA.new 177 [.int .i64 (es), .int .u64 ev]); clear hA) | (at_builtin; go_must (refine wpList_push_blk _ rfl _ _ 93 rfl 0 177 i0 _ 2 16 Try.underlying93 hi0 hz0 hz1 hz2 rfl (by decide) (.slice ra k rc) k (flat enE acc) rfl (HB.out.row 3 rfl) (enE (es, ev)) _ _ rfl (HB.out.blk 0 rfl) rfl (enE_one _) (by unfold maxLen; omega) (by omega) (Nat.zero_le _) ?_)))
            intro g2 c2' w12 hown hg2 hgg hc1 hc2'
            have h3 := HB.out.grown 3 rfl hown hg2 (fun q e => by
              rcases hgg with h1 | h1
              · exact .inl (h1.trans e)
              · right; simp only [Value.ownBlock, Option.some.injEq] at e; rw [← e, h1]; simp)
            have e8 : flat enE acc ++ enE (es, ev) = flat enE (acc ++ [(es, ev)]) := by rw [flat_app, flat_one]
            rw [e8] at h3
            have HS := Lib.hid (h3.sub (Ts' := [_, _, _, _, _]) [3, 4, 5, 6, 7] rfl (by decide))
            clear h3 e8 hown hg2 hgg HB
            go_wp2_with fail
            go_roundg (capN - (k + 1))
            case measure => omega
            case rel => exact ⟨k + 1, t4, acc ++ [(es, ev)], by omega, by go_num, by rw [List.length_append, HACC.out]; rfl, by have := HPE.out; rw [show capN - (k + 1) = g' by omega]; exact this, by omega, by rw [← HT4.out]; exact HS.out⟩
          · have des : decide (es < 65536) = false := by simpa using hes
            have HPE := Lib.hid (HPL.out (-1) (by unfold H.placeOf; rw [if_pos (by omega)]))
            go_wp2_with (first | (refine wpList_load_any 47 _ rfl rfl _ 0 rfl tl4 _ (HS.out.blk 1 rfl).range Try.underlying47 rfl (by rw [hl4]; kernel_rfl) ?_) | (refine wpList_store_sep HS.out 5 rfl tl4 47 _ _ rfl rfl rfl rfl (by rw [hl4, hlk]) (by rw [hl4]; kernel_rfl) ho4 (fun wA hA _ => ?_); have e1 := (hA.blk 0 rfl).cell 1; have e0 := (hA.blk 0 rfl).cell 0; have e1l := (hA.blk 0 rfl).lt; simp only [List.set_cons_zero, List.set_cons_succ, List.getElem?_cons_zero, List.getElem?_cons_succ] at e1 e0; have HB := Lib.hid (hA.new 177 [.int .i64 (-1), .int .u64 ev]); clear hA) | (at_builtin; go_must (refine wpList_push_blk _ rfl _ _ 93 rfl 0 177 i0 _ 2 16 Try.underlying93 hi0 hz0 hz1 hz2 rfl (by decide) (.slice ra k rc) k (flat enE acc) rfl (HB.out.row 3 rfl) (enE (-1, ev)) _ _ rfl (HB.out.blk 0 rfl) rfl (enE_one _) (by unfold maxLen; omega) (by omega) (Nat.zero_le _) ?_)))
            intro g2 c2' w12 hown hg2 hgg hc1 hc2'
            have h3 := HB.out.grown 3 rfl hown hg2 (fun q e => by
              rcases hgg with h1 | h1
              · exact .inl (h1.trans e)
              · right; simp only [Value.ownBlock, Option.some.injEq] at e; rw [← e, h1]; simp)
            have e8 : flat enE acc ++ enE (-1, ev) = flat enE (acc ++ [(-1, ev)]) := by rw [flat_app, flat_one]
            rw [e8] at h3
            have HS := Lib.hid (h3.sub (Ts' := [_, _, _, _, _]) [3, 4, 5, 6, 7] rfl (by decide))
            clear h3 e8 hown hg2 hgg HB
            go_wp2_with fail
            go_roundg (capN - (k + 1))
            case measure => omega
            case rel => exact ⟨k + 1, t4, acc ++ [(-1, ev)], by omega, by go_num, by rw [List.length_append, HACC.out]; rfl, by have := HPE.out; rw [show capN - (k + 1) = g' by omega]; exact this, by omega, by rw [← HT4.out]; exact HS.out⟩
      · have HEQ : Hid (FIN = (tk, acc)) := by
          cases gk with
          | zero => exact hEQ.symm
          | succ g' =>
            unfold H.copyG at hEQ
            rw [if_neg (fun hx => hin ⟨by omega, hx.1, hx.2⟩)] at hEQ
            exact hEQ.symm
        have HS := Lib.hid hS; clear hS hEQ hacc
        have n8 := ((HS.out.blk 3 rfl).cell 8).trans T3.out.need
        have n8l := (HS.out.blk 3 rfl).lt
        have v0 := (HS.out.blk 1 rfl).cell 0
        have v0l := (HS.out.blk 1 rfl).lt
        simp only [List.getElem?_cons_zero] at v0
        obtain ⟨tlk, htlk⟩ : ∃ x, x = tapeL (.slice oa n oc) tk := ⟨_, rfl⟩
        rw [← htlk] at T3
        have hS := HS.out
        rw [← htlk] at hS
        have HS := Lib.hid hS; clear hS
        have HTLK := Lib.hid htlk; clear htlk
        go_wp2_with (refine wpList_load_any 24 _ rfl rfl _ 0 rfl cl _ (HS.out.blk 4 rfl).range Try.underlying24 rfl (by rw [hsz6]; kernel_rfl) ?_)
        refine (HCP.out _).mono ?_
        rintro e w3 ⟨rfl, hf⟩
        have HS := Lib.hid (HS.out.fr0 hf); clear hf n8 n8l v0 v0l
        have n8 := ((HS.out.blk 3 rfl).cell 8).trans T3.out.need
        have n8l := (HS.out.blk 3 rfl).lt
        have v0 := (HS.out.blk 1 rfl).cell 0
        have v0l := (HS.out.blk 1 rfl).lt
        simp only [List.getElem?_cons_zero] at v0
        have hlk := T3.out.len
        have hok := T3.out.one
        have HRES : Hid (∀ wX : World, Sep w wX [rowT 0 177 2 (.slice ra k rc) k (flat enE acc), blkT X 41 [.int .u64 nv, .int .u64 ns], blkT (w.heap.size + 1 + 1) 47 tlk, blkT (w.heap.size + 1) 47 tlk, blkT w.heap.size 24 cl] → ∃ v', Ending.returned (.tuple #[.agg tlk.toArray, .slice ra k rc]) = .returned (.tuple #[.agg (tapeL (.slice oa n oc) FIN.1).toArray, v']) ∧ Sep w wX [rowT 0 177 2 v' FIN.2.length (flat enE FIN.2)]) := fun wX hX => by
          rw [HEQ.out]
          exact ⟨_, by rw [HTLK.out], by dsimp only; rw [HACC.out]; exact hX.sub [0] rfl (by decide)⟩
        by_cases hk : k < capN
        · have hki : (k : Int) < cp := by have := HCN.out; omega
          by_cases hkv : (k : Int) < nv
          · have hnd : tk.need = true := by
              cases hx : tk.need
              · exact absurd ⟨hk, hkv, hx⟩ hin
              · rfl
            rw [hnd] at n8
            go_wp2_with (first | (refine wpList_load_any 47 _ rfl rfl _ 0 rfl tlk _ (HS.out.blk 3 rfl).range Try.underlying47 rfl (by rw [hlk]; kernel_rfl) ?_) | (refine wpList_store_sep HS.out 2 rfl tlk 47 _ _ rfl rfl rfl rfl (by rw [hlk]; rfl) (by rw [hlk]; kernel_rfl) hok (fun wA hA _ => ?_); have HX := Lib.hid hA; clear hA))
            exact bodyPost_ret (v := .tuple #[.agg tlk.toArray, .slice ra k rc]) (res_cell_tmp Try.results121 rfl rfl (HX.out.blk 2 rfl).range Try.underlying47 rfl (by rw [hlk]; kernel_rfl)) rfl (HRES.out _ HX.out)
          · have hkv2 : nv ≤ (k : Int) := by omega
            go_wp2_with (first | (refine wpList_load_any 47 _ rfl rfl _ 0 rfl tlk _ (HS.out.blk 3 rfl).range Try.underlying47 rfl (by rw [hlk]; kernel_rfl) ?_) | (refine wpList_store_sep HS.out 2 rfl tlk 47 _ _ rfl rfl rfl rfl (by rw [hlk]; rfl) (by rw [hlk]; kernel_rfl) hok (fun wA hA _ => ?_); have HX := Lib.hid hA; clear hA))
            exact bodyPost_ret (v := .tuple #[.agg tlk.toArray, .slice ra k rc]) (res_cell_tmp Try.results121 rfl rfl (HX.out.blk 2 rfl).range Try.underlying47 rfl (by rw [hlk]; kernel_rfl)) rfl (HRES.out _ HX.out)
        · have hki : ¬ (k : Int) < cp := by have := HCN.out; omega
          go_wp2_with (first | (refine wpList_load_any 47 _ rfl rfl _ 0 rfl tlk _ (HS.out.blk 3 rfl).range Try.underlying47 rfl (by rw [hlk]; kernel_rfl) ?_) | (refine wpList_store_sep HS.out 2 rfl tlk 47 _ _ rfl rfl rfl rfl (by rw [hlk]; rfl) (by rw [hlk]; kernel_rfl) hok (fun wA hA _ => ?_); have HX := Lib.hid hA; clear hA))
          exact bodyPost_ret (v := .tuple #[.agg tlk.toArray, .slice ra k rc]) (res_cell_tmp Try.results121 rfl rfl (HX.out.blk 2 rfl).range Try.underlying47 rfl (by rw [hlk]; kernel_rfl)) rfl (HRES.out _ HX.out)
end Go.Proofs.Ytccioehckfdjdaa
