/- Chapter 10's own example, walked. -/
import Derived.Test.YtccioehckfdjdaaPex
import Derived.Test.YtccioehckfdjdaaPt
import Derived.Test.YtccioehckfdjdaaYof
set_option linter.unusedSimpArgs false
set_option linter.unusedVariables false
namespace Go.Proofs.Ytccioehckfdjdaa
open Go.RowKit Go.Tum Go.Tum.Y
theorem oneMapP (c : Cfg) : ∀ u ∈ mapCells c, u.oneCell' = true := by simp [mapCells, Value.oneCell']
set_option maxRecDepth 100000 in
set_option maxHeartbeats 8000000 in
theorem alive10_any (w : World) : Calls Try.prog 24 #[] w fun e w' => e = .returned (.bool true) ∧ Fr [] w w' := by
  have HOF : Hid (∀ w, Calls Try.prog 25 #[.agg #[.int .i64 2, .int .i64 3, .int .i64 4, .int .i64 50, .int .u64 5, .int .u64 99]] w fun e w' => e = .returned (.tuple #[mapV P.cP, .int .i64 0]) ∧ Fr [] w w') := fun w => of_good w P.cP P.okP
  have HRD := Lib.hid (fun (w' : World) (R : List Thing) seq l hl hg oa n oc hn hS => pcells_read (w0 := w) (w := w') (R := R) P.cP P.okP seq l hl hg oa n oc hn hS)
  have HAT := Lib.hid (fun w kind i k => at_any w P.cP P.okP kind i k)
  have hsz : (mapCells P.cP).length = 24 := rfl
  have hone := oneMapP P.cP
  unfold mapV at *
  generalize mapCells P.cP = cs at *
  go_enter Try.func24, Try.ntmps24
  go_wp2_with fail
  refine (sample10_any _).mono ?_
  rintro e w1 ⟨rfl, hf⟩
  have HF := Lib.hid hf; clear hf
  go_wp2_with fail
  refine (HOF.out _).mono ?_
  rintro e w2 ⟨rfl, hf⟩
  have HS := Lib.hid ((Sep.nil (HF.out.trans hf)).new 31 cs); clear hf HF
  go_wp2_with (first | (refine wpList_store_new 31 _ (cs).toArray rfl _ _ rfl rfl rfl (by rw [List.size_toArray, hsz]; kernel_rfl) (by simp [hsz]) (all_oneCell_toArray hone) ?_))
  have hmd := (HS.out.blk 0 rfl).drew
  refine wp_region_fr [(1, [0]), (2, [1]), (2, [2]), (3, [3]), (0, [4, 5, 6, 7, 8])] [] (by kernel_rfl) (by kernel_rfl) ?_
  simp only [theOps, nthOp, List.map_cons, List.map_nil, Array.getD_eq_getD_getElem?, List.getElem?_toArray, List.getElem?_cons_succ, List.getElem?_cons_zero, Option.getD_some]
  refine wpSegs_soft ?_
  repeat (first | (refine wpQuiet_load_mid 31 _ _ 0 cs _ rfl rfl rfl (rangeAt_after hmd (by simp)) Try.underlying31 rfl (by rw [hsz]; kernel_rfl) ?_; simp only [Act.put, List.setIfInBounds_toArray, List.set_cons_zero, List.set_cons_succ]) | go_big_quiet_step (fail) | quiet_step (fail))
  refine wpQuiet_nil ?_
  -- the numbers 0, 2, 1, 2, 0, 1 are laid, cells makes replies of them, read hands them on (5: the set's number, b: the state's name, $4: how many)
  refine wpSegs_keep ?_
  go_wp2_with fail
  refine ⟨⟨⟨_, (by exact Fr.from_drew ((Fr.refl _ _).alloc _).drew)⟩, rfl⟩, ?_⟩
  have h2 := (HS.out.new 22 (([0, 2, 1, 2, 0, 1] : List Int).map (Value.int .u64))).drew
  try simp only [World.size_alloc] at h2
  have hA := argU_blk [0, 2, 1, 2, 0, 1] (h2.blk 0 rfl)
  have HS2 := Lib.hid h2; clear h2
  refine wpSegs_keep ?_
  go_wp2_with fail
  refine (cells_any _ _ [0, 2, 1, 2, 0, 1] hA (by decide)).mono ?_
  rintro e w3 ⟨v', rfl, hfr⟩
  have HF := Lib.hid hfr.1
  have h3 := HS2.out.fresh hfr; clear hfr hA HS2
  obtain ⟨oa, oc, rfl⟩ := h3.form 0 rfl
  have HS := Lib.hid h3; clear h3
  go_wp2_with fail
  refine ⟨⟨⟨_, (by exact (Fr.from_drew ((Fr.refl _ _).alloc _).drew).trans HF.out)⟩, rfl⟩, ?_⟩
  refine wpSegs_hard ?_
  go_wp2_with fail
  refine (HRD.out _ _ 5 [0, 2, 1, 2, 0, 1] (by decide) (by decide) oa _ oc rfl HS.out).mono ?_
  rintro e w4 ⟨b, rfl, h4⟩
  rw [P.feedA]
  have HS := Lib.hid (show Sep w w4 [poolT P.cP 5 b P.xA, blkT w2.heap.size 31 cs] from h4.sub [0, 3] rfl (by decide)); clear h4 HF hmd
  go_wp2_with fail
  repeat ((first | refine wpSegs_soft ?_ | refine wpSegs_pure ?_ | refine wpSegs_here ?_); (repeat (first | go_big_quiet_step (fail) | quiet_step (fail))); refine wpQuiet_nil ?_)
  refine wpSegs_done ?_
  go_wp2_with fail
  refine (wnew_sep _ 100).mono ?_
  rintro e w5 ⟨k, rfl, hfr⟩
  rw [show roomOf 100 = 100 from by decide] at hfr
  have HS := Lib.hid (HS.out.fresh hfr); clear hfr
  go_wp2_with fail
  refine (pstatus_of b P.cP 5 P.xA (HS.out.pull 1 rfl)).mono ?_
  rintro e w6 ⟨rfl, hf⟩
  rw [P.sA]
  have HS := Lib.hid (HS.out.fr0 hf); clear hf
  go_wp2_with fail
  refine (psettle_of b k P.cP P.okP 5 P.xA ⟨100, [], []⟩ P.okA (by decide) HS.out).mono ?_
  rintro e w7 ⟨rfl, h7⟩
  have HS := Lib.hid (show Sep w w7 [setT k P.xB.2, poolT P.cP 5 b P.xB.1, blkT w2.heap.size 31 cs] from h7); clear h7
  go_wp2_with fail
  refine (pmark_of b P.cP 5 P.xB.1 (HS.out.pull 1 rfl)).mono ?_
  rintro e w8 ⟨rfl, hf⟩
  rw [P.markB.1, P.markB.2]
  have h8 := (HS.out.fr0 hf).new 83 [.int .i64 2, .int .i64 1]
  have HS := Lib.hid (((h8.pull 1 rfl).pull 2 rfl).pull 1 rfl); clear hf h8
  go_wp2_with fail
  refine (ptop_of b P.cP P.okP 5 P.xB.1 ⟨P.okB.1.1, by have := P.okB.1.2; exact Int.le_trans this (by decide)⟩ (HS.out.pull 1 rfl)).mono ?_
  rintro e w9 ⟨rfl, hf⟩
  rw [P.topB]
  have HS := Lib.hid (HS.out.fr0 hf); clear hf
  go_wp2_with fail
  refine (ptakeT b k P.cP P.okP 5 P.xB.1 P.xB.2 0 P.okB.1 (by have := P.okB.2.2; omega) HS.out).mono ?_
  rintro e w10 ⟨rfl, h10⟩
  have HS := Lib.hid (show Sep w w10 (setT k P.xC.2 :: poolT P.cP 5 b P.xC.1 :: _) from h10); clear h10
  go_wp2_with fail
  refine (pgiveT b k P.cP P.okP 5 P.xC.1 P.xC.2 2 P.okC.1 (by have := P.okC.2; omega) HS.out).mono ?_
  rintro e w11 ⟨rfl, h11⟩
  have HS := Lib.hid (show Sep w w11 (setT k P.xD.2 :: poolT P.cP 5 b P.xD.1 :: _) from h11); clear h11
  go_wp2_with fail
  refine (pmark_of b P.cP 5 P.xD.1 (HS.out.pull 1 rfl)).mono ?_
  rintro e w12 ⟨rfl, hf⟩
  rw [P.markD.1, P.markD.2]
  have h12 := (HS.out.fr0 hf).new 83 [.int .i64 1, .int .i64 2]
  have HS := Lib.hid (((h12.pull 1 rfl).pull 2 rfl).pull 1 rfl); clear hf h12
  go_wp2_with fail
  refine (pendT b k P.cP P.okP 5 P.xD.1 P.xD.2 P.okD.1 P.okD.2.1 (by have := P.okD.2.2; omega) HS.out).mono ?_
  rintro e w13 ⟨rfl, h13⟩
  have HS := Lib.hid (show Sep w w13 (setT k P.xE :: poolT P.cP 5 b P.xD.1 :: _) from h13); clear h13
  go_wp2_with (first | (refine wpList_load_any 31 _ rfl rfl _ 0 rfl cs _ (HS.out.blk 4 rfl).range Try.underlying31 rfl (by rw [hsz]; kernel_rfl) ?_))
  refine (HAT.out _ _ _ _).mono ?_
  rintro e w14 ⟨rfl, hf⟩
  have HS := Lib.hid (HS.out.fr0 hf); clear hf
  go_wp2_with fail
  refine (get_sep HS.out _).mono ?_
  rintro e w15 ⟨rfl, hf⟩
  rw [P.lifeE]
  have HS := Lib.hid (HS.out.fr0 hf); clear hf
  go_wp2_with (first | (refine wpList_load_any 31 _ rfl rfl _ 0 rfl cs _ (HS.out.blk 4 rfl).range Try.underlying31 rfl (by rw [hsz]; kernel_rfl) ?_))
  refine (HAT.out _ _ _ _).mono ?_
  rintro e w16 ⟨rfl, hf⟩
  have HS := Lib.hid (HS.out.fr0 hf); clear hf
  go_wp2_with fail
  refine (get_sep HS.out _).mono ?_
  rintro e w17 ⟨rfl, hf⟩
  rw [P.limboE]
  have HS := Lib.hid (HS.out.fr0 hf); clear hf
  have hmd := (HS.out.blk 4 rfl).drew
  go_wp2_with fail
  refine wp_region_fr [(1, [0]), (2, [1]), (2, [2]), (3, [3]), (0, [4, 5, 6, 7, 8])] [] (by kernel_rfl) (by kernel_rfl) ?_
  simp only [theOps, nthOp, List.map_cons, List.map_nil, Array.getD_eq_getD_getElem?, List.getElem?_toArray, List.getElem?_cons_succ, List.getElem?_cons_zero, Option.getD_some]
  refine wpSegs_soft ?_
  repeat (first | (refine wpQuiet_load_mid 31 _ _ 0 cs _ rfl rfl rfl (rangeAt_after hmd (by simp)) Try.underlying31 rfl (by rw [hsz]; kernel_rfl) ?_; simp only [Act.put, List.setIfInBounds_toArray, List.set_cons_zero, List.set_cons_succ]) | go_big_quiet_step (fail) | quiet_step (fail))
  refine wpQuiet_nil ?_
  -- the numbers 0, 2, 1 are laid, cells makes replies of them, read hands them on (4: the set's number, q: the state's name, $4: how many)
  refine wpSegs_keep ?_
  go_wp2_with fail
  refine ⟨⟨⟨_, (by exact Fr.from_drew ((Fr.refl _ _).alloc _).drew)⟩, rfl⟩, ?_⟩
  have h2 := (HS.out.new 22 (([0, 2, 1] : List Int).map (Value.int .u64))).drew
  try simp only [World.size_alloc] at h2
  have hA := argU_blk [0, 2, 1] (h2.blk 0 rfl)
  have HS2 := Lib.hid h2; clear h2
  refine wpSegs_keep ?_
  go_wp2_with fail
  refine (cells_any _ _ [0, 2, 1] hA (by decide)).mono ?_
  rintro e w3 ⟨v', rfl, hfr⟩
  have HF := Lib.hid hfr.1
  have h3 := HS2.out.fresh hfr; clear hfr hA HS2
  obtain ⟨oa, oc, rfl⟩ := h3.form 0 rfl
  have HS := Lib.hid h3; clear h3
  go_wp2_with fail
  refine ⟨⟨⟨_, (by exact (Fr.from_drew ((Fr.refl _ _).alloc _).drew).trans HF.out)⟩, rfl⟩, ?_⟩
  refine wpSegs_hard ?_
  go_wp2_with fail
  refine (HRD.out _ _ 4 [0, 2, 1] (by decide) (by decide) oa _ oc rfl HS.out).mono ?_
  rintro e w4 ⟨q, rfl, h4⟩
  have HS := Lib.hid (show Sep w w4 [poolT P.cP 4 q P.xQ, setT k P.xE, poolT P.cP 5 b P.xD.1, blkT w12.heap.size 83 [.int .i64 1, .int .i64 2], blkT w8.heap.size 83 [.int .i64 2, .int .i64 1], blkT w2.heap.size 31 cs] from h4.sub [0, 3, 4, 5, 6, 7] rfl (by decide)); clear h4 HF hmd
  go_wp2_with fail
  repeat ((first | refine wpSegs_soft ?_ | refine wpSegs_pure ?_ | refine wpSegs_here ?_); (repeat (first | go_big_quiet_step (fail) | quiet_step (fail))); refine wpQuiet_nil ?_)
  refine wpSegs_done ?_
  go_wp2_with fail
  refine (pask_of q P.cP P.okP 4 P.xQ P.okQ HS.out).mono ?_
  rintro e w18 ⟨rfl, hf⟩
  rw [P.askQ]
  have HS := Lib.hid ((HS.out.fr0 hf).new 43 (enP p0)); clear hf
  have honeP := enP_one p0
  dsimp only
  go_wp2_with (first | (refine wpList_store_sep HS.out 0 rfl (enP p0) 43 _ _ rfl rfl rfl rfl rfl (by kernel_rfl) honeP (fun wA hA _ => ?_); have r0 := (hA.blk 5 rfl).cell 0; have r1 := (hA.blk 5 rfl).cell 1; have rl := (hA.blk 5 rfl).lt; have t0 := (hA.blk 4 rfl).cell 0; have t1 := (hA.blk 4 rfl).cell 1; have tl := (hA.blk 4 rfl).lt; simp only [List.set_cons_zero, List.set_cons_succ, List.getElem?_cons_zero, List.getElem?_cons_succ] at r0 r1 t0 t1; have HA := Lib.hid hA; clear hA) | (refine wpList_load_any 31 _ rfl rfl _ 0 rfl cs _ (HA.out.blk 6 rfl).range Try.underlying31 rfl (by rw [hsz]; kernel_rfl) ?_))
  refine (HAT.out _ _ _ _).mono ?_
  rintro e w19 ⟨rfl, hf⟩
  have HS := Lib.hid (HA.out.fr0 hf); clear hf r0 r1 rl
  have t0 := (HS.out.blk 4 rfl).cell 0
  have t1 := (HS.out.blk 4 rfl).cell 1
  have tl := (HS.out.blk 4 rfl).lt
  simp only [List.set_cons_zero, List.set_cons_succ, List.getElem?_cons_zero, List.getElem?_cons_succ] at t0 t1
  go_wp2_with fail
  refine (pstatus_of q P.cP 4 P.xQ (HS.out.pull 1 rfl)).mono ?_
  rintro e w20 ⟨rfl, hf⟩
  rw [P.sQ]
  have HS := Lib.hid (HS.out.fr0 hf); clear hf
  go_wp2_with fail
  go_ret
  exact ⟨rfl, HS.out.fr⟩
end Go.Proofs.Ytccioehckfdjdaa
