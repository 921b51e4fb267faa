/- The walk of the document's Write. -/
import Derived.Test.YtahoadnagadncaaScas
import Derived.Test.YtahoadnagadncaaYrat
set_option linter.unusedSimpArgs false
set_option linter.unusedVariables false
namespace Go.Tum.Sc
open Go.Tum Go.Tum.Y
/-- The step that writes an entry of the log. -/
def logOp (c : Cfg) (who : Int) (K : List (Int × Int)) (i : Nat) : P6 := ⟨1, at_ c 6 who i, 0, 0, (K.getD i (0, 0)).2, IntKind.u64.wrap (K.getD i (0, 0)).1⟩
def lenOp (c : Cfg) (who : Int) (k : Nat) : P6 := ⟨1, at_ c 5 who 0, 0, 0, k, 0⟩
def openOp (c : Cfg) (who seq : Int) : P6 := ⟨1, at_ c 4 who 0, 0, 0, 1, seq⟩
/-- The tape behind so many entries. -/
def wrT (c : Cfg) (who : Int) (K : List (Int × Int)) (n : Nat) (t : Tp) : Nat → Tp
  | 0 => t
  | i + 1 => (wrT c who K n t i).step n (logOp c who K i)
def wrote (c : Cfg) (who seq : Int) (K : List (Int × Int)) (k n : Nat) (t : Tp) : Tp := ((wrT c who K n t k).step n (lenOp c who k)).step n (openOp c who seq)
theorem step_at (t : Tp) (n : Nat) (op : P6) : (t.step n op).at_ ≤ t.at_ + 1 := by
  unfold Tp.step
  split
  · omega
  · split
    · dsimp only; omega
    · dsimp only; omega
theorem wrT_at (c : Cfg) (who : Int) (K : List (Int × Int)) (n : Nat) (t : Tp) : ∀ i, (wrT c who K n t i).at_ ≤ t.at_ + i
  | 0 => by simp [wrT]
  | i + 1 => by
    have := wrT_at c who K n t i
    have := step_at (wrT c who K n t i) n (logOp c who K i)
    simp only [wrT]; omega
end Go.Tum.Sc
namespace Go.Proofs.Ytahoadnagadncaa
open Go.RowKit Go.Tum Go.Tum.Y Go.Tum.Sc
set_option maxRecDepth 100000 in
set_option maxHeartbeats 8000000 in
theorem write_all (w : World) (c : Cfg) (h : Ok c) (who seq : Int) (a : Option Addr) (m lc : Nat) (L : List (Int × Int)) (hLm : L.length = m) (hL : ArgE enE 2 w (.slice a m lc) L) (hm : m ≤ 1000) (oa : Option Addr) (n oc : Nat) (t : Tp) (ht : t.at_ ≤ 1000) (hn : n ≤ 100000) (l : List O3) (hl : l.length = n) (hO : ArgE enO 3 w (.slice oa n oc) l) (hc : (m : Int) ≤ cap c) :
    Calls Try.prog 10 #[cfgV c, .int .i64 who, .int .u64 seq, .slice a m lc, .agg (tapeL (.slice oa n oc) t).toArray] w fun e w' => e = .returned (.agg (tapeL (.slice oa n oc) (wrote c who seq L m n t)).toArray) ∧ Fr [] w w' := by
  have HCA : Hid (∀ w, Calls Try.prog 18 #[.agg (cfgL c).toArray] w fun e w' => e = .returned (.int .i64 (cap c)) ∧ Fr [] w w') := fun w => rcap_any w c h
  have HA : Hid (∀ w kd i k, Calls Try.prog 34 #[.agg (cfgL c).toArray, .int .i64 kd, .int .i64 i, .int .i64 k] w fun e w' => e = .returned (.int .i64 (at_ c kd i k)) ∧ Fr [] w w') := fun w kd i k => rat_any w c h kd i k
  have hcb := cap_bd h
  have hS := (((Sep.nil (Fr.refl [] w)).new 24 (cfgL c)).new 42 (tapeL (.slice oa n oc) t)).new 42 [.slice none 0 0, .int .i64 0, .int .i64 0, .int .i64 0, .int .u64 0, .int .u64 0, .int .u64 0, .int .u64 0, .bool false]
  simp only [World.size_alloc] at hS
  have HS := Lib.hid hS; clear hS
  have HO := Lib.hid hO; clear hO
  have hsz6 : (cfgL c).length = 6 := rfl
  have hmi : (m : Int) ≤ 1000 := by omega
  have hni : (n : Int) ≤ 100000 := by omega
  rw [show cfgV c = .agg (cfgL c).toArray from rfl]
  generalize cfgL c = cl at *
  have d0 : decide ((m : Int) > cap c) = false := by simp; omega
  have HL := Lib.hid hL; clear hL h
  generalize hk : m = k at *
  generalize hK : L = K at *
  generalize cap c = q at *
  go_enter Try.func10, Try.ntmps10
  go_wp2_with (first | (refine wpList_load_any 24 _ rfl rfl _ 0 rfl cl _ (HS.out.blk 2 rfl).range Try.underlying24 rfl (by rw [hsz6]; kernel_rfl) ?_))
  refine (HCA.out _).mono ?_
  rintro e w1 ⟨rfl, hf⟩
  have HS := Lib.hid (HS.out.fr0 hf)
  clear hf
  go_wp2_with fail
  go_loopg [11] k (fun g vi wr => ∃ i, g + i = k ∧ vi = .int .i64 (i : Int) ∧ Sep w wr [blkT (w.heap.size + 1 + 1) 42 [.slice none 0 0, .int .i64 0, .int .i64 0, .int .i64 0, .int .u64 0, .int .u64 0, .int .u64 0, .int .u64 0, .bool false], blkT (w.heap.size + 1) 42 (tapeL (.slice oa n oc) (wrT c who K n t i)), blkT w.heap.size 24 cl])
  case atStart => exact ⟨0, by omega, rfl, HS.out⟩
  case round =>
    clear HS
    obtain ⟨i, hgi, rfl, hS⟩ := hrel
    have HS := Lib.hid hS; clear hS
    by_cases hi : i < k
    · have hii : (i : Int) < (k : Int) := by omega
      obtain ⟨x, rfl, hx, c0, c1⟩ := (HL.out.fr HS.out.fr).at (i := i) (by omega)
      have e0 := c0 _ rfl
      have e1 := c1 0 _ rfl
      simp only [Nat.zero_add, Nat.reduceAdd] at e1
      have hgd : K.getD i (0, 0) = K[i]'(by omega) := by simp [List.getD_eq_getElem?_getD, List.getElem?_eq_getElem (show i < K.length by omega)]
      have HWR : Hid (wrT c who K n t (i + 1) = (wrT c who K n t i).step n ⟨1, at_ c 6 who i, 0, 0, (K[i]'(by omega)).2, IntKind.u64.wrap (K[i]'(by omega)).1⟩) := by
        show (wrT c who K n t i).step n (logOp c who K i) = _
        unfold logOp; rw [hgd]
      have hta : (wrT c who K n t i).at_ ≤ 200000 := by have := wrT_at c who K n t i; omega
      clear c0 c1 hgd
      generalize K[i]'(by omega) = kk at *
      obtain ⟨ka, kv⟩ := kk
      dsimp only at HWR
      generalize wrT c who K n t i = ti at *
      have hmt := (HS.out.blk 1 rfl).drew
      have hmc := (HS.out.blk 2 rfl).drew
      go_wp2_with fail
      refine wp_region_fr [(1, [0, 1, 2, 3, 5, 6, 7, 8, 9, 10, 11, 12, 13, 14, 15, 16]), (2, [4]), (3, [17]), (3, [18])] [] (by kernel_rfl) (by kernel_rfl) ?_
      simp only [theOps, nthOp, List.map_cons, List.map_nil, Array.getD_eq_getD_getElem?, List.getElem?_toArray, List.getElem?_cons_succ, List.getElem?_cons_zero, Option.getD_some]
      refine wpSegs_soft ?_
      refine wpQuiet_load_mid 42 _ (w.heap.size + 1) 0 (tapeL (.slice oa n oc) ti) _ rfl rfl rfl (rangeAt_after hmt (by simp)) Try.underlying42 rfl (by kernel_rfl) ?_
      simp only [Act.put, List.setIfInBounds_toArray, List.set_cons_zero, List.set_cons_succ]
      refine wpQuiet_load_mid 24 _ w.heap.size 0 cl _ rfl rfl rfl (rangeAt_after hmc (by simp)) Try.underlying24 rfl (by rw [hsz6]; kernel_rfl) ?_
      simp only [Act.put, List.setIfInBounds_toArray, List.set_cons_zero, List.set_cons_succ]
      repeat (first | go_big_quiet_step (fail) | quiet_step (fail))
      refine wpQuiet_nil ?_
      refine wpSegs_keep ?_
      go_wp2_with fail
      refine (HA.out _ _ _ _).mono ?_
      rintro e w2 ⟨rfl, hf⟩
      have HF := Lib.hid hf
      have HS := Lib.hid (HS.out.drew.fr0 hf)
      clear hf
      go_wp2_with fail
      refine ⟨⟨⟨_, (by exact HF.out)⟩, rfl⟩, ?_⟩
      refine wpSegs_hard ?_
      go_wp2_with fail
      refine (store_any _ oa n oc ti (at_ c 6 who i) kv (IntKind.u64.wrap ka) hn hta l hl (HO.out.fr HS.out.fr)).mono ?_
      rintro e w3 ⟨rfl, hf⟩
      rw [← HWR.out]
      have HS := Lib.hid (HS.out.fr0 hf); clear hf
      go_wp2_with fail
      refine wpSegs_hard ?_
      refine wpList_store_sep HS.out 1 rfl (tapeL (.slice oa n oc) (wrT c who K n t (i + 1))) 42 _ _ rfl rfl rfl rfl rfl (by kernel_rfl) (tapeL_one _ _ _ _) (fun wA hA _ => ?_)
      have HS := Lib.hid hA; clear hA
      go_wp2_with fail
      refine wpSegs_done ?_
      go_wp2_with fail
      go_roundg (k - (i + 1))
      case measure => omega
      case rel => exact ⟨i + 1, by omega, by go_num, HS.out⟩
    · obtain rfl : i = k := by omega
      have hta : (wrT c who K n t i).at_ ≤ 150000 := by have := wrT_at c who K n t i; omega
      have hta2 : ((wrT c who K n t i).step n (lenOp c who i)).at_ ≤ 200000 := by have := step_at (wrT c who K n t i) n (lenOp c who i); omega
      have HE1 : Hid ((wrT c who K n t i).step n ⟨1, at_ c 5 who 0, 0, 0, i, 0⟩ = (wrT c who K n t i).step n (lenOp c who i)) := rfl
      have HE2 : Hid (((wrT c who K n t i).step n (lenOp c who i)).step n ⟨1, at_ c 4 who 0, 0, 0, 1, seq⟩ = wrote c who seq K i n t) := rfl
      obtain ⟨tw, htw⟩ : ∃ x, x = wrote c who seq K i n t := ⟨_, rfl⟩
      rw [← htw] at HE2
      have HTW := Lib.hid htw; clear htw
      generalize hts : (wrT c who K n t i).step n (lenOp c who i) = ts at *
      generalize wrT c who K n t i = ti at *
      clear hts
      have hmt := (HS.out.blk 1 rfl).drew
      have hmc := (HS.out.blk 2 rfl).drew
      go_wp2_with fail
      refine wp_region_fr [(1, [0, 1, 2, 4, 5, 6, 7]), (2, [3]), (3, [8]), (3, [9])] [] (by kernel_rfl) (by kernel_rfl) ?_
      simp only [theOps, nthOp, List.map_cons, List.map_nil, Array.getD_eq_getD_getElem?, List.getElem?_toArray, List.getElem?_cons_succ, List.getElem?_cons_zero, Option.getD_some]
      refine wpSegs_soft ?_
      refine wpQuiet_load_mid 42 _ (w.heap.size + 1) 0 (tapeL (.slice oa n oc) ti) _ rfl rfl rfl (rangeAt_after hmt (by simp)) Try.underlying42 rfl (by kernel_rfl) ?_
      simp only [Act.put, List.setIfInBounds_toArray, List.set_cons_zero, List.set_cons_succ]
      refine wpQuiet_load_mid 24 _ w.heap.size 0 cl _ rfl rfl rfl (rangeAt_after hmc (by simp)) Try.underlying24 rfl (by rw [hsz6]; kernel_rfl) ?_
      simp only [Act.put, List.setIfInBounds_toArray, List.set_cons_zero, List.set_cons_succ]
      repeat (first | go_big_quiet_step (fail) | quiet_step (fail))
      refine wpQuiet_nil ?_
      refine wpSegs_keep ?_
      go_wp2_with fail
      refine (HA.out _ _ _ _).mono ?_
      rintro e w2 ⟨rfl, hf⟩
      have HF := Lib.hid hf
      have HS := Lib.hid (HS.out.drew.fr0 hf)
      clear hf
      go_wp2_with fail
      refine ⟨⟨⟨_, (by exact HF.out)⟩, rfl⟩, ?_⟩
      refine wpSegs_hard ?_
      go_wp2_with fail
      refine (store_any _ oa n oc ti (at_ c 5 who 0) i 0 hn (by omega) l hl (HO.out.fr HS.out.fr)).mono ?_
      rintro e w3 ⟨rfl, hf⟩
      rw [HE1.out]
      have HS := Lib.hid (HS.out.fr0 hf); clear hf
      go_wp2_with fail
      refine wpSegs_hard ?_
      refine wpList_store_sep HS.out 1 rfl (tapeL (.slice oa n oc) ts) 42 _ _ rfl rfl rfl rfl rfl (by kernel_rfl) (tapeL_one _ _ _ _) (fun wA hA _ => ?_)
      have HS := Lib.hid hA; clear hA
      go_wp2_with fail
      refine wpSegs_done ?_
      clear hmt hmc
      have hmt := (HS.out.blk 1 rfl).drew
      have hmc := (HS.out.blk 2 rfl).drew
      go_wp2_with fail
      refine wp_region_fr [(1, [0, 1, 2, 4, 5]), (2, [3]), (3, [6]), (3, [7])] [] (by kernel_rfl) (by kernel_rfl) ?_
      simp only [theOps, nthOp, List.map_cons, List.map_nil, Array.getD_eq_getD_getElem?, List.getElem?_toArray, List.getElem?_cons_succ, List.getElem?_cons_zero, Option.getD_some]
      refine wpSegs_soft ?_
      refine wpQuiet_load_mid 42 _ (w.heap.size + 1) 0 (tapeL (.slice oa n oc) ts) _ rfl rfl rfl (rangeAt_after hmt (by simp)) Try.underlying42 rfl (by kernel_rfl) ?_
      simp only [Act.put, List.setIfInBounds_toArray, List.set_cons_zero, List.set_cons_succ]
      refine wpQuiet_load_mid 24 _ w.heap.size 0 cl _ rfl rfl rfl (rangeAt_after hmc (by simp)) Try.underlying24 rfl (by rw [hsz6]; kernel_rfl) ?_
      simp only [Act.put, List.setIfInBounds_toArray, List.set_cons_zero, List.set_cons_succ]
      repeat (first | go_big_quiet_step (fail) | quiet_step (fail))
      refine wpQuiet_nil ?_
      refine wpSegs_keep ?_
      go_wp2_with fail
      refine (HA.out _ _ _ _).mono ?_
      rintro e w2 ⟨rfl, hf⟩
      have HF := Lib.hid hf
      have HS := Lib.hid (HS.out.drew.fr0 hf)
      clear hf
      go_wp2_with fail
      refine ⟨⟨⟨_, (by exact HF.out)⟩, rfl⟩, ?_⟩
      refine wpSegs_hard ?_
      go_wp2_with fail
      refine (store_any _ oa n oc ts (at_ c 4 who 0) 1 seq hn hta2 l hl (HO.out.fr HS.out.fr)).mono ?_
      rintro e w3 ⟨rfl, hf⟩
      rw [HE2.out]
      have HS := Lib.hid (HS.out.fr0 hf); clear hf
      go_wp2_with fail
      refine wpSegs_hard ?_
      refine wpList_store_sep HS.out 0 rfl (tapeL (.slice oa n oc) tw) 42 _ _ rfl rfl rfl rfl rfl (by kernel_rfl) (tapeL_one _ _ _ _) (fun wA hA _ => ?_)
      have HS := Lib.hid hA; clear hA
      go_wp2_with fail
      refine wpSegs_done ?_
      go_wp2_with fail
      exact bodyPost_ret (v := .agg (tapeL (.slice oa n oc) tw).toArray) (res_cell Try.results10 rfl (HS.out.blk 0 rfl).range Try.underlying42 rfl (by kernel_rfl)) rfl ⟨by rw [HTW.out], HS.out.fr⟩
set_option maxRecDepth 100000 in
set_option maxHeartbeats 8000000 in
theorem write_cut (w : World) (c : Cfg) (h : Ok c) (who seq : Int) (a : Option Addr) (m lc : Nat) (L : List (Int × Int)) (hLm : L.length = m) (hL : ArgE enE 2 w (.slice a m lc) L) (hm : m ≤ 1000) (oa : Option Addr) (n oc : Nat) (t : Tp) (ht : t.at_ ≤ 1000) (hn : n ≤ 100000) (l : List O3) (hl : l.length = n) (hO : ArgE enO 3 w (.slice oa n oc) l) (k : Nat) (hk : (k : Int) = cap c) (hc : k < m) :
    Calls Try.prog 10 #[cfgV c, .int .i64 who, .int .u64 seq, .slice a m lc, .agg (tapeL (.slice oa n oc) t).toArray] w fun e w' => e = .returned (.agg (tapeL (.slice oa n oc) (wrote c who seq (L.take k) k n t)).toArray) ∧ Fr [] w w' := by
  have HCA : Hid (∀ w, Calls Try.prog 18 #[.agg (cfgL c).toArray] w fun e w' => e = .returned (.int .i64 (cap c)) ∧ Fr [] w w') := fun w => rcap_any w c h
  have HA : Hid (∀ w kd i k, Calls Try.prog 34 #[.agg (cfgL c).toArray, .int .i64 kd, .int .i64 i, .int .i64 k] w fun e w' => e = .returned (.int .i64 (at_ c kd i k)) ∧ Fr [] w w') := fun w kd i k => rat_any w c h kd i k
  have hcb := cap_bd h
  have hS := (((Sep.nil (Fr.refl [] w)).new 24 (cfgL c)).new 42 (tapeL (.slice oa n oc) t)).new 42 [.slice none 0 0, .int .i64 0, .int .i64 0, .int .i64 0, .int .u64 0, .int .u64 0, .int .u64 0, .int .u64 0, .bool false]
  simp only [World.size_alloc] at hS
  have HS := Lib.hid hS; clear hS
  have HO := Lib.hid hO; clear hO
  have hsz6 : (cfgL c).length = 6 := rfl
  have hmi : (m : Int) ≤ 1000 := by omega
  have hni : (n : Int) ≤ 100000 := by omega
  rw [show cfgV c = .agg (cfgL c).toArray from rfl]
  generalize cfgL c = cl at *
  have d0 : decide ((m : Int) > (k : Int)) = true := by simp; omega
  have d0' : decide (m > k) = true := by simp; omega
  have hlc : m ≤ lc := by obtain ⟨a', cap', e, hh, _⟩ := hL; simp only [Value.slice.injEq] at e; omega
  have hki : (k : Int) ≤ (lc : Int) := by omega
  have HL := Lib.hid (hL.take k (by omega)); clear hL h
  rw [← hk] at HCA
  have hKl : (L.take k).length = k := by rw [List.length_take]; omega
  clear hk hcb
  generalize L.take k = K at *
  go_enter Try.func10, Try.ntmps10
  go_wp2_with (first | (refine wpList_load_any 24 _ rfl rfl _ 0 rfl cl _ (HS.out.blk 2 rfl).range Try.underlying24 rfl (by rw [hsz6]; kernel_rfl) ?_))
  refine (HCA.out _).mono ?_
  rintro e w1 ⟨rfl, hf⟩
  have HS := Lib.hid (HS.out.fr0 hf)
  clear hf
  go_wp2_with (first | (refine wpList_load_any 24 _ rfl rfl _ 0 rfl cl _ (HS.out.blk 2 rfl).range Try.underlying24 rfl (by rw [hsz6]; kernel_rfl) ?_))
  refine (HCA.out _).mono ?_
  rintro e w1 ⟨rfl, hf⟩
  have HS := Lib.hid (HS.out.fr0 hf)
  clear hf
  go_wp2_with fail
  go_loopg [11] k (fun g vi wr => ∃ i, g + i = k ∧ vi = .int .i64 (i : Int) ∧ Sep w wr [blkT (w.heap.size + 1 + 1) 42 [.slice none 0 0, .int .i64 0, .int .i64 0, .int .i64 0, .int .u64 0, .int .u64 0, .int .u64 0, .int .u64 0, .bool false], blkT (w.heap.size + 1) 42 (tapeL (.slice oa n oc) (wrT c who K n t i)), blkT w.heap.size 24 cl])
  case atStart => exact ⟨0, by omega, rfl, HS.out⟩
  case round =>
    clear HS
    obtain ⟨i, hgi, rfl, hS⟩ := hrel
    have HS := Lib.hid hS; clear hS
    by_cases hi : i < k
    · have hii : (i : Int) < (k : Int) := by omega
      obtain ⟨x, rfl, hx, c0, c1⟩ := (HL.out.fr HS.out.fr).at (i := i) (by omega)
      have e0 := c0 _ rfl
      have e1 := c1 0 _ rfl
      simp only [Nat.zero_add, Nat.reduceAdd] at e1
      have hgd : K.getD i (0, 0) = K[i]'(by omega) := by simp [List.getD_eq_getElem?_getD, List.getElem?_eq_getElem (show i < K.length by omega)]
      have HWR : Hid (wrT c who K n t (i + 1) = (wrT c who K n t i).step n ⟨1, at_ c 6 who i, 0, 0, (K[i]'(by omega)).2, IntKind.u64.wrap (K[i]'(by omega)).1⟩) := by
        show (wrT c who K n t i).step n (logOp c who K i) = _
        unfold logOp; rw [hgd]
      have hta : (wrT c who K n t i).at_ ≤ 200000 := by have := wrT_at c who K n t i; omega
      clear c0 c1 hgd
      generalize K[i]'(by omega) = kk at *
      obtain ⟨ka, kv⟩ := kk
      dsimp only at HWR
      generalize wrT c who K n t i = ti at *
      have hmt := (HS.out.blk 1 rfl).drew
      have hmc := (HS.out.blk 2 rfl).drew
      go_wp2_with fail
      refine wp_region_fr [(1, [0, 1, 2, 3, 5, 6, 7, 8, 9, 10, 11, 12, 13, 14, 15, 16]), (2, [4]), (3, [17]), (3, [18])] [] (by kernel_rfl) (by kernel_rfl) ?_
      simp only [theOps, nthOp, List.map_cons, List.map_nil, Array.getD_eq_getD_getElem?, List.getElem?_toArray, List.getElem?_cons_succ, List.getElem?_cons_zero, Option.getD_some]
      refine wpSegs_soft ?_
      refine wpQuiet_load_mid 42 _ (w.heap.size + 1) 0 (tapeL (.slice oa n oc) ti) _ rfl rfl rfl (rangeAt_after hmt (by simp)) Try.underlying42 rfl (by kernel_rfl) ?_
      simp only [Act.put, List.setIfInBounds_toArray, List.set_cons_zero, List.set_cons_succ]
      refine wpQuiet_load_mid 24 _ w.heap.size 0 cl _ rfl rfl rfl (rangeAt_after hmc (by simp)) Try.underlying24 rfl (by rw [hsz6]; kernel_rfl) ?_
      simp only [Act.put, List.setIfInBounds_toArray, List.set_cons_zero, List.set_cons_succ]
      repeat (first | go_big_quiet_step (fail) | quiet_step (fail))
      refine wpQuiet_nil ?_
      refine wpSegs_keep ?_
      go_wp2_with fail
      refine (HA.out _ _ _ _).mono ?_
      rintro e w2 ⟨rfl, hf⟩
      have HF := Lib.hid hf
      have HS := Lib.hid (HS.out.drew.fr0 hf)
      clear hf
      go_wp2_with fail
      refine ⟨⟨⟨_, (by exact HF.out)⟩, rfl⟩, ?_⟩
      refine wpSegs_hard ?_
      go_wp2_with fail
      refine (store_any _ oa n oc ti (at_ c 6 who i) kv (IntKind.u64.wrap ka) hn hta l hl (HO.out.fr HS.out.fr)).mono ?_
      rintro e w3 ⟨rfl, hf⟩
      rw [← HWR.out]
      have HS := Lib.hid (HS.out.fr0 hf); clear hf
      go_wp2_with fail
      refine wpSegs_hard ?_
      refine wpList_store_sep HS.out 1 rfl (tapeL (.slice oa n oc) (wrT c who K n t (i + 1))) 42 _ _ rfl rfl rfl rfl rfl (by kernel_rfl) (tapeL_one _ _ _ _) (fun wA hA _ => ?_)
      have HS := Lib.hid hA; clear hA
      go_wp2_with fail
      refine wpSegs_done ?_
      go_wp2_with fail
      go_roundg (k - (i + 1))
      case measure => omega
      case rel => exact ⟨i + 1, by omega, by go_num, HS.out⟩
    · obtain rfl : i = k := by omega
      have hta : (wrT c who K n t i).at_ ≤ 150000 := by have := wrT_at c who K n t i; omega
      have hta2 : ((wrT c who K n t i).step n (lenOp c who i)).at_ ≤ 200000 := by have := step_at (wrT c who K n t i) n (lenOp c who i); omega
      have HE1 : Hid ((wrT c who K n t i).step n ⟨1, at_ c 5 who 0, 0, 0, i, 0⟩ = (wrT c who K n t i).step n (lenOp c who i)) := rfl
      have HE2 : Hid (((wrT c who K n t i).step n (lenOp c who i)).step n ⟨1, at_ c 4 who 0, 0, 0, 1, seq⟩ = wrote c who seq K i n t) := rfl
      obtain ⟨tw, htw⟩ : ∃ x, x = wrote c who seq K i n t := ⟨_, rfl⟩
      rw [← htw] at HE2
      have HTW := Lib.hid htw; clear htw
      generalize hts : (wrT c who K n t i).step n (lenOp c who i) = ts at *
      generalize wrT c who K n t i = ti at *
      clear hts
      have hmt := (HS.out.blk 1 rfl).drew
      have hmc := (HS.out.blk 2 rfl).drew
      go_wp2_with fail
      refine wp_region_fr [(1, [0, 1, 2, 4, 5, 6, 7]), (2, [3]), (3, [8]), (3, [9])] [] (by kernel_rfl) (by kernel_rfl) ?_
      simp only [theOps, nthOp, List.map_cons, List.map_nil, Array.getD_eq_getD_getElem?, List.getElem?_toArray, List.getElem?_cons_succ, List.getElem?_cons_zero, Option.getD_some]
      refine wpSegs_soft ?_
      refine wpQuiet_load_mid 42 _ (w.heap.size + 1) 0 (tapeL (.slice oa n oc) ti) _ rfl rfl rfl (rangeAt_after hmt (by simp)) Try.underlying42 rfl (by kernel_rfl) ?_
      simp only [Act.put, List.setIfInBounds_toArray, List.set_cons_zero, List.set_cons_succ]
      refine wpQuiet_load_mid 24 _ w.heap.size 0 cl _ rfl rfl rfl (rangeAt_after hmc (by simp)) Try.underlying24 rfl (by rw [hsz6]; kernel_rfl) ?_
      simp only [Act.put, List.setIfInBounds_toArray, List.set_cons_zero, List.set_cons_succ]
      repeat (first | go_big_quiet_step (fail) | quiet_step (fail))
      refine wpQuiet_nil ?_
      refine wpSegs_keep ?_
      go_wp2_with fail
      refine (HA.out _ _ _ _).mono ?_
      rintro e w2 ⟨rfl, hf⟩
      have HF := Lib.hid hf
      have HS := Lib.hid (HS.out.drew.fr0 hf)
      clear hf
      go_wp2_with fail
      refine ⟨⟨⟨_, (by exact HF.out)⟩, rfl⟩, ?_⟩
      refine wpSegs_hard ?_
      go_wp2_with fail
      refine (store_any _ oa n oc ti (at_ c 5 who 0) i 0 hn (by omega) l hl (HO.out.fr HS.out.fr)).mono ?_
      rintro e w3 ⟨rfl, hf⟩
      rw [HE1.out]
      have HS := Lib.hid (HS.out.fr0 hf); clear hf
      go_wp2_with fail
      refine wpSegs_hard ?_
      refine wpList_store_sep HS.out 1 rfl (tapeL (.slice oa n oc) ts) 42 _ _ rfl rfl rfl rfl rfl (by kernel_rfl) (tapeL_one _ _ _ _) (fun wA hA _ => ?_)
      have HS := Lib.hid hA; clear hA
      go_wp2_with fail
      refine wpSegs_done ?_
      clear hmt hmc
      have hmt := (HS.out.blk 1 rfl).drew
      have hmc := (HS.out.blk 2 rfl).drew
      go_wp2_with fail
      refine wp_region_fr [(1, [0, 1, 2, 4, 5]), (2, [3]), (3, [6]), (3, [7])] [] (by kernel_rfl) (by kernel_rfl) ?_
      simp only [theOps, nthOp, List.map_cons, List.map_nil, Array.getD_eq_getD_getElem?, List.getElem?_toArray, List.getElem?_cons_succ, List.getElem?_cons_zero, Option.getD_some]
      refine wpSegs_soft ?_
      refine wpQuiet_load_mid 42 _ (w.heap.size + 1) 0 (tapeL (.slice oa n oc) ts) _ rfl rfl rfl (rangeAt_after hmt (by simp)) Try.underlying42 rfl (by kernel_rfl) ?_
      simp only [Act.put, List.setIfInBounds_toArray, List.set_cons_zero, List.set_cons_succ]
      refine wpQuiet_load_mid 24 _ w.heap.size 0 cl _ rfl rfl rfl (rangeAt_after hmc (by simp)) Try.underlying24 rfl (by rw [hsz6]; kernel_rfl) ?_
      simp only [Act.put, List.setIfInBounds_toArray, List.set_cons_zero, List.set_cons_succ]
      repeat (first | go_big_quiet_step (fail) | quiet_step (fail))
      refine wpQuiet_nil ?_
      refine wpSegs_keep ?_
      go_wp2_with fail
      refine (HA.out _ _ _ _).mono ?_
      rintro e w2 ⟨rfl, hf⟩
      have HF := Lib.hid hf
      have HS := Lib.hid (HS.out.drew.fr0 hf)
      clear hf
      go_wp2_with fail
      refine ⟨⟨⟨_, (by exact HF.out)⟩, rfl⟩, ?_⟩
      refine wpSegs_hard ?_
      go_wp2_with fail
      refine (store_any _ oa n oc ts (at_ c 4 who 0) 1 seq hn hta2 l hl (HO.out.fr HS.out.fr)).mono ?_
      rintro e w3 ⟨rfl, hf⟩
      rw [HE2.out]
      have HS := Lib.hid (HS.out.fr0 hf); clear hf
      go_wp2_with fail
      refine wpSegs_hard ?_
      refine wpList_store_sep HS.out 0 rfl (tapeL (.slice oa n oc) tw) 42 _ _ rfl rfl rfl rfl rfl (by kernel_rfl) (tapeL_one _ _ _ _) (fun wA hA _ => ?_)
      have HS := Lib.hid hA; clear hA
      go_wp2_with fail
      refine wpSegs_done ?_
      go_wp2_with fail
      exact bodyPost_ret (v := .agg (tapeL (.slice oa n oc) tw).toArray) (res_cell Try.results10 rfl (HS.out.blk 0 rfl).range Try.underlying42 rfl (by kernel_rfl)) rfl ⟨by rw [HTW.out], HS.out.fr⟩
end Go.Proofs.Ytahoadnagadncaa
