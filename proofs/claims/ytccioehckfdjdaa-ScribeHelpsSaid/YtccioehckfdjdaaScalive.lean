/- Chapter 13: the law's own example. -/
import Derived.Test.YtccioehckfdjdaaScask
import Derived.Test.YtccioehckfdjdaaScnew
import Derived.Test.YtccioehckfdjdaaYof
set_option linter.unusedSimpArgs false
set_option linter.unusedVariables false
namespace Go.Tum.Sc
open Go.Tum.Y
def cA : Cfg := ⟨2, 3, 4, 50, 5, 99⟩
theorem okA : Ok cA := ⟨by decide, by decide, by decide, by decide, by decide, by decide, by decide, by decide, by decide, by decide⟩
end Go.Tum.Sc
namespace Go.Proofs.Ytccioehckfdjdaa
open Go.RowKit Go.Tum Go.Tum.Y Go.Tum.Sc
theorem argE_one {w : World} {b : Nat} {T : TypeId} {e : Int × Int} (h : Blk w b T (enE e)) : ArgE enE 2 w (.slice (some ⟨b, 0, none⟩) 1 1) [e] :=
  ⟨some ⟨b, 0, none⟩, 1, rfl, Nat.le_refl _, .inr ⟨⟨b, 0, none⟩, rfl, h.lt, fun i hi j u hj => by
    obtain rfl : i = 0 := by simp at hi; omega
    rw [Addr.add_lit, h.cell]; simpa using hj⟩⟩
set_option maxRecDepth 100000 in
set_option maxHeartbeats 8000000 in
theorem alive13_any (w : World) : Calls Try.prog 79 #[] w fun e w' => e = .returned (.bool true) ∧ Fr [] w w' := by
  have HOF : Hid (∀ w, Calls Try.prog 25 #[.agg #[.int .i64 2, .int .i64 3, .int .i64 4, .int .i64 50, .int .u64 5, .int .u64 99]] w fun e w' => e = .returned (.tuple #[mapV cA, .int .i64 0]) ∧ Fr [] w w') := fun w => of_good w cA okA
  have v6 : at_ cA 6 1 0 = 63 := by decide
  have v5 : at_ cA 5 1 0 = 62 := by decide
  have v4 : at_ cA 4 1 0 = 61 := by decide
  have HA6 : Hid (∀ w, Calls Try.prog 37 #[mapV cA, .int .i64 6, .int .i64 1, .int .i64 0] w fun e w' => e = .returned (.int .i64 63) ∧ Fr [] w w') := fun w => by have := at_any w cA okA 6 1 0; rwa [v6] at this
  have HA5 : Hid (∀ w, Calls Try.prog 37 #[mapV cA, .int .i64 5, .int .i64 1, .int .i64 0] w fun e w' => e = .returned (.int .i64 62) ∧ Fr [] w w') := fun w => by have := at_any w cA okA 5 1 0; rwa [v5] at this
  have HNW : Hid (∀ w v, ArgE enE 2 w v [(130, 9)] → Calls Try.prog 84 #[mapV cA, .int .i64 1, .int .u64 6, v] w fun e w' => ∃ b v', e = .returned (.pointer (some ⟨b, 0, none⟩)) ∧ Sep w w' [blkT b 205 (scL (mapCells cA) 1 6 v' 0), rowT 0 136 2 v' 1 (flat enE [(130, 9)])]) := fun w v hL => scnew_any w cA okA 1 6 v _ hL (by decide) 1 (by decide)
  have HLG : Hid (∀ w b g lc, Blk w b 205 (scL (mapCells cA) 1 6 (.slice (some ⟨g, 0, none⟩) 1 lc) 0) → w.ownsRow 0 136 2 (.slice (some ⟨g, 0, none⟩) 1 lc) 1 (flat enE [(130, 9)]) → Calls Try.prog 85 #[.pointer (some ⟨b, 0, none⟩)] w fun e w' => e = .returned (.tuple #[.agg #[.int .i64 1, .int .i64 63, .int .u64 0, .int .u64 0, .int .u64 9, .int .u64 130], .bool true]) ∧ Fr [] w w') := fun w b g lc hB hr =>
    (ask_log w cA okA b 1 6 g 1 lc 0 [(130, 9)] hB hr rfl (by decide) (by decide) (by decide) (by decide)).mono fun e w' ⟨he, hf⟩ => ⟨by rw [he, show at_ cA 6 1 ((0 : Nat) : Int) = 63 from v6]; rfl, hf⟩
  have HLN : Hid (∀ w b g lc, Blk w b 205 (scL (mapCells cA) 1 6 (.slice (some ⟨g, 0, none⟩) 1 lc) 1) → Calls Try.prog 85 #[.pointer (some ⟨b, 0, none⟩)] w fun e w' => e = .returned (.tuple #[.agg #[.int .i64 1, .int .i64 62, .int .u64 0, .int .u64 0, .int .u64 1, .int .u64 0], .bool true]) ∧ Fr [] w w') := fun w b g lc hB =>
    (ask_len w cA okA b 1 6 _ 1 lc 1 hB (by decide) (by decide) (by decide) rfl).mono fun e w' ⟨he, hf⟩ => ⟨by rw [he, v5]; rfl, hf⟩
  have HOP : Hid (∀ w b g lc, Blk w b 205 (scL (mapCells cA) 1 6 (.slice (some ⟨g, 0, none⟩) 1 lc) 2) → Calls Try.prog 85 #[.pointer (some ⟨b, 0, none⟩)] w fun e w' => e = .returned (.tuple #[.agg #[.int .i64 1, .int .i64 61, .int .u64 0, .int .u64 0, .int .u64 1, .int .u64 6], .bool true]) ∧ Fr [] w w') := fun w b g lc hB =>
    (ask_open w cA okA b 1 6 _ 1 lc 2 hB (by decide) (by decide) (by decide) (by decide) (by decide)).mono fun e w' ⟨he, hf⟩ => ⟨by rw [he, v4]; rfl, hf⟩
  have HDN : Hid (∀ w b g lc, Blk w b 205 (scL (mapCells cA) 1 6 (.slice (some ⟨g, 0, none⟩) 1 lc) 3) → Calls Try.prog 85 #[.pointer (some ⟨b, 0, none⟩)] w fun e w' => e = .returned (.tuple #[.agg #[.int .i64 0, .int .i64 0, .int .u64 0, .int .u64 0, .int .u64 0, .int .u64 0], .bool false]) ∧ Fr [] w w') := fun w b g lc hB =>
    (ask_done w cA okA b 1 6 _ 1 lc 3 hB (by decide) (by decide) (by decide)).mono fun e w' ⟨he, hf⟩ => ⟨by rw [he]; rfl, hf⟩
  clear v4 v5 v6
  have hsz : (mapCells cA).length = 24 := rfl
  have hone := oneMap cA
  unfold mapV at *
  generalize mapCells cA = cs at *
  go_enter Try.func79, Try.ntmps79
  go_wp2_with fail
  refine (HOF.out _).mono ?_
  rintro e w1 ⟨rfl, hf⟩
  have hS := ((Sep.nil hf).new 31 cs).new 136 (enE (130, 9))
  simp only [World.size_alloc] at hS
  have HS := Lib.hid hS; clear hf hS
  go_wp2_with (first | (refine wpList_store_new 31 _ (cs).toArray rfl _ _ rfl rfl rfl (by rw [List.size_toArray, hsz]; kernel_rfl) (by simp [hsz]) (all_oneCell_toArray hone) ?_) | (refine wpList_load_any 31 _ rfl rfl _ 0 rfl cs _ (Blk.new _ _ _).range Try.underlying31 rfl (by rw [hsz]; kernel_rfl) ?_))
  generalize w1.heap.size = q at *
  have HE := Lib.hid (argE_one (HS.out.blk 0 rfl))
  refine (HNW.out _ _ HE.out).mono ?_
  rintro e w2 ⟨b, v', rfl, hN⟩
  have HS := Lib.hid (HS.out.append hN); clear hN HE
  simp only [List.cons_append, List.nil_append] at HS
  obtain ⟨g, lc, rfl⟩ : ∃ g lc, v' = .slice (some ⟨g, 0, none⟩) 1 lc := by
    rcases ownsRow_form (HS.out.row 1 rfl) with ⟨_, e⟩ | ⟨g, n, e, _⟩
    · omega
    · exact ⟨g, n, e⟩
  have HDD := Lib.hid (done_any _ b cs hsz 1 6 (some ⟨g, 0, none⟩) 1 lc 0 (HS.out.blk 0 rfl) (by decide) (by decide))
  rw [show decide (0 > 1 + 1) = false from rfl] at HDD
  go_wp2_with fail
  refine (HDD.out).mono ?_
  rintro e w1 ⟨rfl, hf⟩
  have HS := Lib.hid (HS.out.fr0 hf)
  clear hf
  go_wp2_with fail
  refine (HLG.out _ b g lc (HS.out.blk 0 rfl) (HS.out.row 1 rfl)).mono ?_
  rintro e w1 ⟨rfl, hf⟩
  have HS := Lib.hid (HS.out.fr0 hf)
  clear hf
  have HS := Lib.hid (HS.out.new 43 [.int .i64 1, .int .i64 63, .int .u64 0, .int .u64 0, .int .u64 9, .int .u64 130])
  go_wp2_with fail
  refine ((HS.out.call 1 rfl (fun R hR => tell_go b cs hsz 1 6 (some ⟨g, 0, none⟩) 1 lc 0 0 0 false hR (by decide) (by decide) (by decide)))).mono ?_
  rintro e w1 ⟨rfl, hS⟩
  simp only [List.set_cons_zero, List.set_cons_succ] at hS
  have HS := Lib.hid hS; clear hS
  go_wp2_with fail
  refine (HLN.out _ b g lc (HS.out.blk 1 rfl)).mono ?_
  rintro e w1 ⟨rfl, hf⟩
  have HS := Lib.hid (HS.out.fr0 hf)
  clear hf
  have HS := Lib.hid (HS.out.new 43 [.int .i64 1, .int .i64 62, .int .u64 0, .int .u64 0, .int .u64 1, .int .u64 0])
  go_wp2_with fail
  refine ((HS.out.call 2 rfl (fun R hR => tell_go b cs hsz 1 6 (some ⟨g, 0, none⟩) 1 lc 1 0 0 false hR (by decide) (by decide) (by decide)))).mono ?_
  rintro e w1 ⟨rfl, hS⟩
  simp only [List.set_cons_zero, List.set_cons_succ] at hS
  have HS := Lib.hid hS; clear hS
  go_wp2_with fail
  refine (HOP.out _ b g lc (HS.out.blk 2 rfl)).mono ?_
  rintro e w1 ⟨rfl, hf⟩
  have HS := Lib.hid (HS.out.fr0 hf)
  clear hf
  have HS := Lib.hid (HS.out.new 43 [.int .i64 1, .int .i64 61, .int .u64 0, .int .u64 0, .int .u64 1, .int .u64 6])
  go_wp2_with fail
  refine ((HS.out.call 3 rfl (fun R hR => tell_go b cs hsz 1 6 (some ⟨g, 0, none⟩) 1 lc 2 0 0 false hR (by decide) (by decide) (by decide)))).mono ?_
  rintro e w1 ⟨rfl, hS⟩
  simp only [List.set_cons_zero, List.set_cons_succ] at hS
  have HS := Lib.hid hS; clear hS
  go_wp2_with fail
  refine (HDN.out _ b g lc (HS.out.blk 3 rfl)).mono ?_
  rintro e w1 ⟨rfl, hf⟩
  have HS := Lib.hid (HS.out.fr0 hf)
  clear hf
  have HS := Lib.hid (HS.out.new 43 [.int .i64 0, .int .i64 0, .int .u64 0, .int .u64 0, .int .u64 0, .int .u64 0])
  have a0 := (HS.out.blk 3 rfl).cell 0
  have a1 := (HS.out.blk 3 rfl).cell 1
  have a2 := (HS.out.blk 3 rfl).cell 2
  have a3 := (HS.out.blk 3 rfl).cell 3
  have a4 := (HS.out.blk 3 rfl).cell 4
  have a5 := (HS.out.blk 3 rfl).cell 5
  have b1 := (HS.out.blk 2 rfl).cell 1
  have b4 := (HS.out.blk 2 rfl).cell 4
  have c4 := (HS.out.blk 1 rfl).cell 4
  have c5 := (HS.out.blk 1 rfl).cell 5
  simp only [List.getElem?_cons_zero, List.getElem?_cons_succ] at a0 a1 a2 a3 a4 a5 b1 b4 c4 c5
  have hmd := (HS.out.blk 7 rfl).drew
  go_wp2_with fail
  refine wp_region_fr [(1, [0, 1, 2, 3, 5]), (2, [4]), (1, [6, 7, 8, 9, 10, 11, 12, 13, 14, 15, 16, 17, 18, 19, 20, 21]), (2, [22]), (1, [23, 24, 25, 26, 27, 28, 29, 30, 31, 32, 33, 34, 35, 36, 37, 38, 39]), (2, [40]), (0, [41, 42])] [] (by kernel_rfl) (by kernel_rfl) ?_
  simp only [theOps, nthOp, List.map_cons, List.map_nil, Array.getD_eq_getD_getElem?, List.getElem?_toArray, List.getElem?_cons_succ, List.getElem?_cons_zero, Option.getD_some]
  refine wpSegs_soft ?_
  repeat (first | (refine wpQuiet_load_mid 31 _ _ 0 cs _ rfl rfl rfl (rangeAt_after hmd (by simp)) Try.underlying31 rfl (by rw [hsz]; kernel_rfl) ?_; simp only [Act.put, List.setIfInBounds_toArray, List.set_cons_zero, List.set_cons_succ]) | go_big_quiet_step (fail) | quiet_step (fail))
  refine wpQuiet_nil ?_
  refine wpSegs_keep ?_
  go_wp2_with fail
  refine (HA6.out _).mono ?_
  rintro e w2 ⟨rfl, hf⟩
  have HF := Lib.hid hf
  have HS := Lib.hid (HS.out.drew.fr0 hf); clear hf
  go_wp2_with fail
  refine ⟨⟨⟨_, (by exact HF.out)⟩, rfl⟩, ?_⟩
  refine wpSegs_soft ?_
  repeat (first | (refine wpQuiet_load_mid 31 _ _ 0 cs _ rfl rfl rfl (rangeAt_after hmd (by simp)) Try.underlying31 rfl (by rw [hsz]; kernel_rfl) ?_; simp only [Act.put, List.setIfInBounds_toArray, List.set_cons_zero, List.set_cons_succ]) | go_big_quiet_step (fail) | quiet_step (fail))
  refine wpQuiet_nil ?_
  refine wpSegs_keep ?_
  go_wp2_with fail
  refine (HA5.out _).mono ?_
  rintro e w2 ⟨rfl, hf⟩
  have HF := Lib.hid (HF.out.trans hf)
  have HS := Lib.hid (HS.out.fr0 hf); clear hf
  go_wp2_with fail
  refine ⟨⟨⟨_, (by exact HF.out)⟩, rfl⟩, ?_⟩
  refine wpSegs_soft ?_
  repeat (first | (refine wpQuiet_load_mid 31 _ _ 0 cs _ rfl rfl rfl (rangeAt_after hmd (by simp)) Try.underlying31 rfl (by rw [hsz]; kernel_rfl) ?_; simp only [Act.put, List.setIfInBounds_toArray, List.set_cons_zero, List.set_cons_succ]) | go_big_quiet_step (fail) | quiet_step (fail))
  refine wpQuiet_nil ?_
  refine wpSegs_keep ?_
  go_wp2_with fail
  refine (done_any _ b cs hsz 1 6 (some ⟨g, 0, none⟩) 1 lc 3 (HS.out.blk 4 rfl) (by decide) (by decide)).mono ?_
  rintro e w2 ⟨rfl, hf⟩
  rw [show decide (3 > 1 + 1) = true from rfl]
  have HF := Lib.hid (HF.out.trans hf)
  have HS := Lib.hid (HS.out.fr0 hf); clear hf
  go_wp2_with fail
  refine ⟨⟨⟨_, (by exact HF.out)⟩, rfl⟩, ?_⟩
  repeat ((first | refine wpSegs_soft ?_ | refine wpSegs_pure ?_ | refine wpSegs_here ?_); (repeat (first | go_big_quiet_step (fail) | quiet_step (fail))); refine wpQuiet_nil ?_)
  refine wpSegs_done ?_
  go_wp2_with fail
  go_ret
  exact ⟨rfl, HS.out.fr⟩
end Go.Proofs.Ytccioehckfdjdaa
