/- The walk of the document's Boot: the cells with which all begins. -/
import Derived.Test.YtjblonbfmdjpcaaYlaw1
import Derived.Deep.LoopGhost
set_option linter.unusedSimpArgs false
set_option linter.unusedVariables false
namespace Go.Tum.Y
theorem bootB_snd {c : Cfg} {j : Nat} (hj : j < (bootB c).length) (h0 : j ≠ 0) : ((bootB c)[j]).2 = 0 := by
  have hl : j < (size c).toNat := by simpa [bootB] using hj
  simp only [bootB, List.getElem_set]
  split
  · rfl
  · split
    · omega
    · simp
theorem bootK_snd {c : Cfg} : ∀ (k : Nat) {j : Nat} (hj : j < (bootK c k).length) (h0 : j ≠ 0), ((bootK c k)[j]).2 = 0
  | 0, j, hj, h0 => bootB_snd (by simpa [bootK] using hj) h0
  | k + 1, j, hj, h0 => by
    have hj' : j < (bootK c k).length := by rw [bootK_len] at hj ⊢; exact hj
    simp only [bootK, List.getElem_set]
    split
    · rfl
    · exact bootK_snd k hj' h0
end Go.Tum.Y
namespace Go.Proofs.Ytjblonbfmdjpcaa
open Go.RowKit Go.Tum Go.Tum.Y
set_option maxHeartbeats 4000000 in
theorem rboot_any (w : World) (c : Cfg) (h : Ok c) : Calls Try.prog 25 #[cfgV c] w fun e w' => ∃ g cap, e = .returned (.slice (some ⟨g, 0, none⟩) (size c).toNat cap) ∧ Sep w w' [rowT 0 52 2 (.slice (some ⟨g, 0, none⟩) (size c).toNat cap) (size c).toNat (flat enC (bootL c))] := by
  obtain ⟨i0, hi0, hz0, hz1, hz2⟩ := info_parts M_infoCell
  have HZ : Hid (∀ w, Calls Try.prog 19 #[.agg (cfgL c).toArray] w fun e w' => e = .returned (.int .i64 (size c)) ∧ Fr [] w w') := fun w => rsize_any w c h
  have HA : Hid (∀ w kd i k, Calls Try.prog 21 #[.agg (cfgL c).toArray, .int .i64 kd, .int .i64 i, .int .i64 k] w fun e w' => e = .returned (.int .i64 (at_ c kd i k)) ∧ Fr [] w w') := fun w kd i k => rat_any w c h kd i k
  obtain ⟨r0, r1, r2, r3, r4, r5, r6, r7, r8, r9, r10, r11, r12⟩ := row h
  have hb64 := h.b64
  obtain ⟨n, hn⟩ : ∃ n : Nat, (n : Int) = size c := ⟨(size c).toNat, by omega⟩
  have hn2 : (size c).toNat = n := by omega
  obtain ⟨kt, hkt⟩ : ∃ k : Nat, (k : Int) = fTop c := ⟨(fTop c).toNat, by omega⟩
  obtain ⟨ks, hks⟩ : ∃ k : Nat, (k : Int) = fStack c := ⟨(fStack c).toNat, by omega⟩
  obtain ⟨nb, hnb⟩ : ∃ k : Nat, (k : Int) = c.b := ⟨c.b.toNat, by omega⟩
  have HB0 := Lib.hid (show bootK c 0 = ((List.replicate n ((0 : Int), (0 : Int))).set 0 (0, c.fi)).set kt (c.b, 0) by
    unfold bootK bootB; rw [hn2, show (fTop c).toNat = kt by omega])
  have HBS := Lib.hid (show ∀ k, bootK c (k + 1) = (bootK c k).set (ks + k) (c.b - 1 - k, 0) by
    intro k; rw [bootK, show (fStack c).toNat = ks by omega])
  have HBL := Lib.hid (show bootL c = bootK c nb by unfold bootL; rw [show c.b.toNat = nb by omega])
  have HLE := Lib.hid (fun k => (bootK_len c k).trans hn2)
  have HAT := Lib.hid ((at_top h).trans hkt.symm)
  have HAS := Lib.hid (show ∀ k : Nat, k < nb → at_ c 13 k 0 = ((ks + k : Nat) : Int) by
    intro k hk; rw [at_stack h (by omega) (by omega), ← hks]; omega)
  rw [hn2]
  have hn3 : n ≤ 65536 := by omega
  have hn14 : 14 ≤ n := by omega
  have hkn : kt < n := by omega
  have hk0 : 0 < kt := by omega
  have hks0 : 0 < ks := by omega
  have hksn : ks + nb ≤ n := by omega
  have hb1 : 1 ≤ nb ∧ nb ≤ 64 := by omega
  have hsz : (cfgL c).length = 6 := rfl
  have g0 : (cfgL c)[0]? = some (.int .i64 c.t) := rfl
  have g1 : (cfgL c)[1]? = some (.int .i64 c.b) := rfl
  have g4 : (cfgL c)[4]? = some (.int .u64 c.fi) := rfl
  rw [show cfgV c = .agg (cfgL c).toArray from rfl]
  have hS := (Sep.nil (Fr.refl [] w)).new 24 (cfgL c)
  generalize cfgL c = cs at *
  rw [← hnb] at *
  rw [← hn] at HZ
  clear h r0 r1 r2 r3 r4 r5 r6 r7 r8 r9 r10 r11 r12 hn hn2 hkt hks hb64 hnb
  have HS := Lib.hid hS; clear hS
  go_enter Try.func25, Try.ntmps25
  go_wp2_with (first | (refine wpList_load_any 24 _ rfl rfl _ 0 rfl cs _ (HS.out.blk 0 rfl).range Try.underlying24 rfl (by rw [hsz]; kernel_rfl) ?_))
  refine (HZ.out _).mono ?_
  rintro e w1 ⟨rfl, hf⟩
  have HS := Lib.hid (HS.out.fr0 hf); clear hf
  have hni : (n : Int) ≤ 65536 := by omega
  go_wp2_with (at_make; refine wpList_make_full _ rfl _ _ 49 rfl 0 52 i0 _ 2 Try.underlying49 hi0 hz0 hz1 .i64 .i64 _ _ n rfl rfl rfl rfl (by rw [hz2]; omega) (by unfold maxLen; omega) (Nat.zero_le _) ?_)
  intro w2 ho hg1
  rw [show (madeCells #[Value.int .u64 0, Value.int .u64 0] (n * 2)).toList = flat enC (List.replicate n ((0 : Int), (0 : Int))) from mm_made n] at ho
  have f : Fr [] w1 w2 := (Fr.refl [] w1).grown hg1 (fun k e => by cases e)
  have hS := HS.out.push f (T := rowT 0 52 2 (.slice (some ⟨w1.heap.size, 0, none⟩) n n) n (flat enC (List.replicate n (0, 0)))) (fp := [w1.heap.size]) ⟨rfl, ho⟩ (by simp)
  clear ho hg1 f HS
  generalize w1.heap.size = g at *
  have m0 := ((hS.blk 1 rfl).cell 0).trans g0
  have m1 := ((hS.blk 1 rfl).cell 1).trans g1
  have m4 := ((hS.blk 1 rfl).cell 4).trans g4
  have hr := hS.row 0 rfl
  have hg := (World.ownsRow.lt hr g rfl).2
  obtain ⟨x0, x1⟩ := cells_of hr (k := 0) (by simp; omega)
  simp only [Nat.zero_mul, Nat.zero_add] at x0 x1
  have f0 := ownsRow_froz hr 0
  have f1 := ownsRow_froz hr 1
  have hs2 := (hS.setRow 0 rfl (0 * 2) (.int .u64 0)).setRow 0 rfl (0 * 2 + 1) (.int .u64 c.fi)
  simp only [List.set_cons_zero, List.set_cons_succ, flat_set2 (List.replicate n ((0 : Int), (0 : Int))) (k := 0) (by simp; omega)] at hs2
  simp only [Nat.zero_mul, Nat.zero_add] at hs2
  have HS := Lib.hid hs2
  have hni0 : (0 : Int) < (n : Int) := by omega
  clear hS hr hs2
  go_wp2_with fail
  generalize (w2.setCell ⟨g, 0, none⟩ (.int .u64 0)).setCell ⟨g, 1, none⟩ (.int .u64 c.fi) = w3 at *
  clear x0 x1 f0 f1 hg m0 m1 m4
  have hl1 : ((List.replicate n ((0 : Int), (0 : Int))).set 0 (0, c.fi)).length = n := by simp
  have hl2 : (((List.replicate n ((0 : Int), (0 : Int))).set 0 (0, c.fi))[kt]'(by rw [hl1]; exact hkn)).2 = 0 := by
    simp only [List.getElem_set]
    rw [if_neg (by omega)]; simp
  generalize (List.replicate n ((0 : Int), (0 : Int))).set 0 (0, c.fi) = l1 at *
  have hS := HS.out
  have m0 := ((hS.blk 1 rfl).cell 0).trans g0
  have m1 := ((hS.blk 1 rfl).cell 1).trans g1
  have m4 := ((hS.blk 1 rfl).cell 4).trans g4
  have hmd := (hS.blk 1 rfl).drew
  have hkti : (kt : Int) < (n : Int) := by omega
  clear hS
  refine wp_region_fr [(1, [0, 1, 3, 4, 5]), (2, [2]), (0, [6, 7]), (3, [8])] [] (by kernel_rfl) (by kernel_rfl) ?_
  simp only [theOps, nthOp, List.map_cons, List.map_nil, Array.getD_eq_getD_getElem?, List.getElem?_toArray, List.getElem?_cons_succ, List.getElem?_cons_zero, Option.getD_some]
  refine wpSegs_soft ?_
  iterate 1 (first | go_big_quiet_step (fail) | quiet_step (fail))
  refine wpQuiet_load_mid 24 _ w.heap.size 0 cs _ rfl rfl rfl (rangeAt_after hmd (by simp)) Try.underlying24 rfl (by rw [hsz]; kernel_rfl) ?_
  simp only [Act.put, List.setIfInBounds_toArray, List.set_cons_zero, List.set_cons_succ]
  repeat (first | go_big_quiet_step (fail) | quiet_step (fail))
  refine wpQuiet_nil ?_
  refine wpSegs_keep ?_
  go_wp2_with fail
  refine (HA.out _ _ _ _).mono ?_
  rintro e w4 ⟨rfl, hf⟩
  rw [HAT.out]
  have HF := Lib.hid hf; clear hf
  go_wp2_with fail
  refine ⟨⟨⟨_, (by exact HF.out)⟩, rfl⟩, ?_⟩
  have hS := HS.out.drew.fr0 HF.out
  have hr := hS.row 0 rfl
  have hg := (World.ownsRow.lt hr g rfl).2
  have x0 := (cells_of hr (k := kt) (by omega)).1
  have f0 := ownsRow_froz hr (kt * 2)
  have hs2 := hS.setRow 0 rfl (kt * 2) (.int .u64 nb)
  simp only [List.set_cons_zero, List.set_cons_succ, flat_set1 l1 (k := kt) (by omega), hl2] at hs2
  rw [← HB0.out] at hs2
  have HS := Lib.hid hs2
  clear hS hr hs2 HF hmd m0 m1 m4
  repeat ((first | refine wpSegs_soft ?_ | refine wpSegs_pure ?_ | refine wpSegs_here ?_); (repeat (first | go_big_quiet_step (fail) | quiet_step (fail))); refine wpQuiet_nil ?_)
  refine wpSegs_hard ?_
  go_wp2_with fail
  refine wpSegs_done ?_
  generalize w4.setCell ⟨g, kt * 2, none⟩ (.int .u64 nb) = w5 at *
  clear x0 f0 hg
  have hS := HS.out
  have m0 := ((hS.blk 1 rfl).cell 0).trans g0
  have m1 := ((hS.blk 1 rfl).cell 1).trans g1
  have m4 := ((hS.blk 1 rfl).cell 4).trans g4
  clear hS
  go_wp2_with fail
  go_loopg [4] nb (fun gk vi wr => ∃ k, gk + k = nb ∧ vi = .int .i64 (k : Int) ∧ Sep w wr [rowT 0 52 2 (.slice (some ⟨g, 0, none⟩) n n) n (flat enC (bootK c k)), blkT w.heap.size 24 cs])
  case atStart => exact ⟨0, by omega, rfl, HS.out⟩
  case round =>
    clear HS m0 m1 m4
    obtain ⟨k, hgk, rfl, hS⟩ := hrel
    have m0 := ((hS.blk 1 rfl).cell 0).trans g0
    have m1 := ((hS.blk 1 rfl).cell 1).trans g1
    have m4 := ((hS.blk 1 rfl).cell 4).trans g4
    have hmd := (hS.blk 1 rfl).drew
    have HS := Lib.hid hS; clear hS
    by_cases hk : k < nb
    · have hki : (k : Int) < (nb : Int) := by omega
      have hsub : 0 ≤ (nb : Int) - 1 - (k : Int) ∧ (nb : Int) - 1 - (k : Int) ≤ 64 := by omega
      have hkb : (k : Int) ≤ 64 := by omega
      obtain ⟨m, hm⟩ : ∃ m : Nat, m = ks + k := ⟨_, rfl⟩
      have hmn : m < n := by omega
      have hmi : (m : Int) < (n : Int) := by omega
      have HAK := Lib.hid (show at_ c 13 k 0 = (m : Int) by rw [hm]; exact HAS.out k hk)
      have hsn : ((bootK c k)[m]'(by rw [HLE.out]; exact hmn)).2 = 0 := bootK_snd k _ (by omega)
      have HBK := Lib.hid (show bootK c (k + 1) = (bootK c k).set m (nb - 1 - k, 0) by rw [hm]; exact HBS.out k)
      have HLK := Lib.hid (HLE.out k)
      clear hm
      go_wp2_with fail
      refine wp_region_fr [(1, [0, 1, 2, 4, 5, 6, 7, 8, 9]), (2, [3]), (0, [10, 11]), (3, [12])] [] (by kernel_rfl) (by kernel_rfl) ?_
      simp only [theOps, nthOp, List.map_cons, List.map_nil, Array.getD_eq_getD_getElem?, List.getElem?_toArray, List.getElem?_cons_succ, List.getElem?_cons_zero, Option.getD_some]
      refine wpSegs_soft ?_
      iterate 1 (first | go_big_quiet_step (fail) | quiet_step (fail))
      refine wpQuiet_load_mid 24 _ w.heap.size 0 cs _ rfl rfl rfl (rangeAt_after hmd (by simp)) Try.underlying24 rfl (by rw [hsz]; kernel_rfl) ?_
      simp only [Act.put, List.setIfInBounds_toArray, List.set_cons_zero, List.set_cons_succ]
      repeat (first | go_big_quiet_step (fail) | quiet_step (fail))
      refine wpQuiet_nil ?_
      refine wpSegs_keep ?_
      go_wp2_with fail
      refine (HA.out _ _ _ _).mono ?_
      rintro e w7 ⟨rfl, hf⟩
      rw [HAK.out]
      have HF := Lib.hid hf; clear hf
      go_wp2_with fail
      refine ⟨⟨⟨_, (by exact HF.out)⟩, rfl⟩, ?_⟩
      have hS := HS.out.drew.fr0 HF.out
      have hr := hS.row 0 rfl
      have hg := (World.ownsRow.lt hr g rfl).2
      have x0 := (cells_of hr (k := m) (by rw [HLK.out]; exact hmn)).1
      have f0 := ownsRow_froz hr (m * 2)
      have hs2 := hS.setRow 0 rfl (m * 2) (.int .u64 (nb - 1 - k))
      simp only [List.set_cons_zero, List.set_cons_succ, flat_set1 (bootK c k) (k := m) (by rw [HLK.out]; exact hmn), hsn] at hs2
      rw [← HBK.out] at hs2
      have HS2 := Lib.hid hs2
      clear hS hr hs2 HF hmd m0 m1 m4 hsn
      repeat ((first | refine wpSegs_soft ?_ | refine wpSegs_pure ?_ | refine wpSegs_here ?_); (repeat (first | go_big_quiet_step (fail) | quiet_step (fail))); refine wpQuiet_nil ?_)
      refine wpSegs_hard ?_
      go_wp2_with fail
      refine wpSegs_done ?_
      go_wp2_with fail
      go_roundg (nb - (k + 1))
      case measure => omega
      case rel => exact ⟨k + 1, by omega, by go_num, HS2.out⟩
    · obtain rfl : k = nb := by omega
      go_wp2_with fail
      go_ret
      rw [HBL.out]
      exact ⟨g, n, rfl, HS.out.sub [0] rfl (by decide)⟩
end Go.Proofs.Ytjblonbfmdjpcaa
