/- The walks of package help: Done, place, unless, read, open, New. -/
import Derived.Test.YtccioehckfdjdaaHplain
import Derived.Test.YtccioehckfdjdaaScnew
set_option linter.unusedSimpArgs false
set_option linter.unusedVariables false
namespace Go.Tum
open Go.RowKit
/-- A nil slice is a row of nothing. -/
theorem Sep.nilRow {w0 w : World} {Ts : List Thing} (h : Sep w0 w Ts) (base : Nat) (e : TypeId) (size : Nat) : Sep w0 w (rowT base e size (.slice none 0 0) 0 [] :: Ts) :=
  h.push (Fr.refl [] w) (fp := []) ⟨rfl, World.ownsRow_nil w base e size⟩ (by simp)
end Go.Tum
namespace Go.Proofs.Ytccioehckfdjdaa
open Go.RowKit Go.Tum Go.Tum.Y Go.Tum.Sc
theorem hdone_any (w : World) (b : Nat) (cs : List Value) (hsz : cs.length = 24) (who owner seq : Int) (v : Value) (h : H.H) (hB : Blk w b 181 (H.hL cs who owner seq v h)) :
    Calls Try.prog 66 #[.pointer (some ⟨b, 0, none⟩)] w fun e w' => e = .returned (.bool (decide (h.next = 8))) ∧ Fr [] w w' := by
  have k24 := (hB.cell 24).trans (H.hL_at hsz who owner seq v h).1
  have k25 := (hB.cell 25).trans (H.hL_at hsz who owner seq v h).2.1
  have k26 := (hB.cell 26).trans (H.hL_at hsz who owner seq v h).2.2.1
  have k27 := (hB.cell 27).trans (H.hL_at hsz who owner seq v h).2.2.2.1
  have k28 := (hB.cell 28).trans (H.hL_at hsz who owner seq v h).2.2.2.2.1
  have k29 := (hB.cell 29).trans (H.hL_at hsz who owner seq v h).2.2.2.2.2.1
  have k30 := (hB.cell 30).trans (H.hL_at hsz who owner seq v h).2.2.2.2.2.2.1
  have k33 := (hB.cell 33).trans (H.hL_at hsz who owner seq v h).2.2.2.2.2.2.2.2.2
  have kl := hB.lt
  clear hB
  generalize h.next = q at *
  have e : decide (q = 8) = (q == 8) := by by_cases x : q = 8 <;> simp [x]
  rw [e]
  go_enter Try.func66, Try.ntmps66
  go_wp2
  first | done | (go_ret; exact ⟨rfl, Fr.refl _ _⟩) | exact ⟨rfl, Fr.refl _ _⟩
theorem place_any (w : World) (s : Int) (hs : 0 ≤ s) : Calls Try.prog 124 #[.int .u64 s] w fun e w' => e = .returned (.int .i64 (H.placeOf s)) ∧ Fr [] w w' := by
  unfold H.placeOf
  by_cases h : 65536 ≤ s
  · rw [if_pos h]
    go_enter Try.func124, Try.ntmps124
    go_wp2
    go_ret
    exact ⟨rfl, Fr.refl _ _⟩
  · rw [if_neg h]
    have hw : IntKind.i64.wrap s = s := wrap_i64_id s (by omega) (by omega)
    go_enter Try.func124, Try.ntmps124
    go_wp2
    go_ret
    exact ⟨rfl, Fr.refl _ _⟩
theorem hunless_any {w0 w : World} {R : List Thing} (b : Nat) (cs : List Value) (hsz : cs.length = 24) (who owner seq : Int) (v : Value) (h : H.H) (is : Bool) (hS : Sep w0 w (blkT b 181 (H.hL cs who owner seq v h) :: R)) :
    Calls Try.prog 125 #[.pointer (some ⟨b, 0, none⟩), .bool is] w fun e w' => e = .returned (.tuple #[]) ∧ Sep w0 w' (blkT b 181 (H.hL cs who owner seq v (H.unl is h)) :: R) := by
  have f33 := (hS.blk 0 rfl).froz 33
  have k24 := ((hS.blk 0 rfl).cell 24).trans (H.hL_at hsz who owner seq v h).1
  have k25 := ((hS.blk 0 rfl).cell 25).trans (H.hL_at hsz who owner seq v h).2.1
  have k26 := ((hS.blk 0 rfl).cell 26).trans (H.hL_at hsz who owner seq v h).2.2.1
  have k27 := ((hS.blk 0 rfl).cell 27).trans (H.hL_at hsz who owner seq v h).2.2.2.1
  have k28 := ((hS.blk 0 rfl).cell 28).trans (H.hL_at hsz who owner seq v h).2.2.2.2.1
  have k29 := ((hS.blk 0 rfl).cell 29).trans (H.hL_at hsz who owner seq v h).2.2.2.2.2.1
  have k30 := ((hS.blk 0 rfl).cell 30).trans (H.hL_at hsz who owner seq v h).2.2.2.2.2.2.1
  have k33 := ((hS.blk 0 rfl).cell 33).trans (H.hL_at hsz who owner seq v h).2.2.2.2.2.2.2.2.2
  have kl := (hS.blk 0 rfl).lt
  have hS2 := hS.set 0 rfl 33 (.int .i64 8)
  rw [H.hL_next hsz] at hS2
  have HS := Lib.hid hS; have HS2 := Lib.hid hS2
  clear hS hS2
  generalize h.next = q at k33
  unfold H.unl
  cases is
  · go_enter Try.func125, Try.ntmps125
    go_wp2_with fail
    go_end0
    exact ⟨rfl, HS2.out⟩
  · go_enter Try.func125, Try.ntmps125
    go_wp2_with fail
    go_end0
    exact ⟨rfl, HS.out⟩
set_option maxHeartbeats 1000000 in
theorem hread_any {w0 w : World} {R : List Thing} (b : Nat) (cs : List Value) (hsz : cs.length = 24) (who owner seq : Int) (la : Option Addr) (m lc : Nat) (h : H.H) (hm : m = h.list.length) (hS : Sep w0 w (blkT b 181 (H.hL cs who owner seq (.slice la m lc) h) :: R)) :
    Calls Try.prog 123 #[.pointer (some ⟨b, 0, none⟩)] w fun e w' => e = .returned (.tuple #[]) ∧ Sep w0 w' (blkT b 181 (H.hL cs who owner seq (.slice la m lc) (H.read h)) :: R) := by
  unfold H.read
  by_cases e : (h.list.length : Int) = h.n
  · have e2 : ((h.list.length : Int) == h.n) = true := by simpa using e
    rw [if_pos e]
    clear e
    have f33 := (hS.blk 0 rfl).froz 33
    have kl := (hS.blk 0 rfl).lt
    have k33 := ((hS.blk 0 rfl).cell 33).trans (H.hL_at hsz who owner seq (.slice la m lc) h).2.2.2.2.2.2.2.2.2
    have hS1 := hS.set 0 rfl 33 (.int .i64 1)
    rw [H.hL_next hsz] at hS1
    have HS1 := Lib.hid hS1; clear hS1 hS
    go_enter Try.func123, Try.ntmps123
    go_wp2_with fail
    generalize World.setCell _ _ _ = w1 at HS1 ⊢
    have k27 := ((HS1.out.blk 0 rfl).cell 27).trans (H.hL_at hsz who owner seq (.slice la m lc) { h with next := 1 }).2.2.2.1
    have k28 := ((HS1.out.blk 0 rfl).cell 28).trans (H.hL_at hsz who owner seq (.slice la m lc) { h with next := 1 }).2.2.2.2.1
    have k33 := ((HS1.out.blk 0 rfl).cell 33).trans (H.hL_at hsz who owner seq (.slice la m lc) { h with next := 1 }).2.2.2.2.2.2.2.2.2
    have f33 := (HS1.out.blk 0 rfl).froz 33
    have kl := (HS1.out.blk 0 rfl).lt
    dsimp only at k27 k28 k33
    have hS2 := HS1.out.drew.set 0 rfl 33 (.int .i64 2)
    rw [H.hL_next hsz] at hS2
    have HS2 := Lib.hid hS2; clear hS2
    subst hm
    refine wp_region_fr [(1, [0, 1, 2, 3, 4, 5, 6, 7, 8, 9])] [] (by kernel_rfl) (by kernel_rfl) ?_
    simp only [theOps, nthOp, List.map_cons, List.map_nil, Array.getD_eq_getD_getElem?, List.getElem?_toArray, List.getElem?_cons_succ, List.getElem?_cons_zero, Option.getD_some]
    repeat ((first | refine wpSegs_soft ?_ | refine wpSegs_pure ?_ | refine wpSegs_here ?_); (repeat (first | go_big_quiet_step (fail) | quiet_step (fail))); refine wpQuiet_nil ?_)
    refine wpSegs_done ?_
    go_wp2_with fail
    go_end0
    exact ⟨rfl, HS2.out⟩
  · have e2 : ((h.list.length : Int) == h.n) = false := by simpa using e
    rw [if_neg e]
    clear e
    have f33 := (hS.blk 0 rfl).froz 33
    have kl := (hS.blk 0 rfl).lt
    have k33 := ((hS.blk 0 rfl).cell 33).trans (H.hL_at hsz who owner seq (.slice la m lc) h).2.2.2.2.2.2.2.2.2
    have hS1 := hS.set 0 rfl 33 (.int .i64 1)
    rw [H.hL_next hsz] at hS1
    have HS1 := Lib.hid hS1; clear hS1 hS
    go_enter Try.func123, Try.ntmps123
    go_wp2_with fail
    generalize World.setCell _ _ _ = w1 at HS1 ⊢
    have k27 := ((HS1.out.blk 0 rfl).cell 27).trans (H.hL_at hsz who owner seq (.slice la m lc) { h with next := 1 }).2.2.2.1
    have k28 := ((HS1.out.blk 0 rfl).cell 28).trans (H.hL_at hsz who owner seq (.slice la m lc) { h with next := 1 }).2.2.2.2.1
    have k33 := ((HS1.out.blk 0 rfl).cell 33).trans (H.hL_at hsz who owner seq (.slice la m lc) { h with next := 1 }).2.2.2.2.2.2.2.2.2
    have f33 := (HS1.out.blk 0 rfl).froz 33
    have kl := (HS1.out.blk 0 rfl).lt
    dsimp only at k27 k28 k33
    have hS2 := HS1.out.drew.set 0 rfl 33 (.int .i64 2)
    rw [H.hL_next hsz] at hS2
    have HS2 := Lib.hid hS2; clear hS2
    subst hm
    refine wp_region_fr [(1, [0, 1, 2, 3, 4, 5, 6, 7, 8, 9])] [] (by kernel_rfl) (by kernel_rfl) ?_
    simp only [theOps, nthOp, List.map_cons, List.map_nil, Array.getD_eq_getD_getElem?, List.getElem?_toArray, List.getElem?_cons_succ, List.getElem?_cons_zero, Option.getD_some]
    repeat ((first | refine wpSegs_soft ?_ | refine wpSegs_pure ?_ | refine wpSegs_here ?_); (repeat (first | go_big_quiet_step (fail) | quiet_step (fail))); refine wpQuiet_nil ?_)
    refine wpSegs_done ?_
    go_wp2_with fail
    go_end0
    exact ⟨rfl, HS1.out.drew⟩
set_option maxRecDepth 100000 in
set_option maxHeartbeats 4000000 in
theorem hopen_any (w : World) (c : Cfg) (hok : Ok c) (b : Nat) (who owner seq : Int) (v : Value) (h : H.H) (hB : Blk w b 181 (H.hL (mapCells c) who owner seq v h)) :
    Calls Try.prog 122 #[.pointer (some ⟨b, 0, none⟩)] w fun e w' => e = .returned (.tuple #[.int .i64 (at_ c 4 owner 0), .agg [Value.int .u64 1, .int .u64 seq].toArray]) ∧ Fr [] w w' := by
  have HA := Lib.hid (fun w => at_any w c hok 4 owner 0)
  have hsz : (mapCells c).length = 24 := rfl
  unfold mapV at *
  generalize mapCells c = cs at *
  generalize at_ c 4 owner 0 = av at *
  have HS := Lib.hid ((Sep.nil (Fr.refl [] w)).new 41 [.int .u64 0, .int .u64 0])
  have hB1 := hB.fr HS.out.fr (by simp)
  have hbw := hB.lt
  have k25 := (hB1.cell 25).trans (H.hL_at hsz who owner seq v h).2.1
  have k26 := (hB1.cell 26).trans (H.hL_at hsz who owner seq v h).2.2.1
  have hmd := hB1.drew
  have kl := hB1.lt
  have hne : ¬ b = w.heap.size := by omega
  clear hB hB1
  go_enter Try.func122, Try.ntmps122
  go_wp2_with fail
  refine wp_region_fr [(1, [0, 1, 2, 3, 4, 5, 6, 7, 9, 10, 11, 12, 13]), (2, [8]), (0, [14]), (3, [15])] [w.heap.size] (by kernel_rfl) (by kernel_rfl) ?_
  simp only [theOps, nthOp, List.map_cons, List.map_nil, Array.getD_eq_getD_getElem?, List.getElem?_toArray, List.getElem?_cons_succ, List.getElem?_cons_zero, Option.getD_some]
  refine wpSegs_soft ?_
  iterate 3 (first | go_big_quiet_step (fail) | quiet_step (fail))
  refine wpQuiet_load_mid 31 _ b 0 cs _ rfl rfl rfl (rangeAt_pre hmd (by simp; omega)) Try.underlying31 rfl (by rw [hsz]; kernel_rfl) ?_
  simp only [Act.put, List.setIfInBounds_toArray, List.set_cons_zero, List.set_cons_succ]
  repeat (first | go_big_quiet_step (fail) | quiet_step (fail))
  refine wpQuiet_nil ?_
  refine wpSegs_keep ?_
  go_wp2_with fail
  refine (HA.out _).mono ?_
  rintro e w2 ⟨rfl, hf⟩
  have HF := Lib.hid (hf.mono (fp' := [w.heap.size]) (by simp))
  have HS := Lib.hid (HS.out.drew.fr0 hf)
  clear hf
  go_wp2_with fail
  refine ⟨⟨⟨_, (by exact HF.out)⟩, rfl⟩, ?_⟩
  repeat ((first | refine wpSegs_soft ?_ | refine wpSegs_pure ?_ | refine wpSegs_here ?_); (repeat (first | go_big_quiet_step (fail) | quiet_step (fail))); refine wpQuiet_nil ?_)
  refine wpSegs_hard ?_
  have hone : ∀ u ∈ [Value.int .u64 1, .int .u64 seq], u.oneCell' = true := by simp [Value.oneCell']
  refine wpList_store_sep HS.out 0 rfl [.int .u64 1, .int .u64 seq] 41 _ _ rfl rfl rfl rfl rfl (by kernel_rfl) hone (fun wA hA _ => ?_)
  have HA2 := Lib.hid hA; clear hA
  go_wp2_with fail
  refine wpSegs_done ?_
  go_wp2_with fail
  have r0 := (HA2.out.blk 0 rfl).cell 0
  have r1 := (HA2.out.blk 0 rfl).cell 1
  simp only [List.getElem?_cons_zero, List.getElem?_cons_succ] at r0 r1
  exact bodyPost_ret (v := .tuple #[.int .i64 av, .agg [Value.int .u64 1, .int .u64 seq].toArray]) (by simp [results, Try.results122, go_sem, r0, r1]) rfl ⟨rfl, HA2.out.fr⟩
set_option maxRecDepth 100000 in
set_option maxHeartbeats 4000000 in
theorem hnew_any (w : World) (cs : List Value) (hsz : cs.length = 24) (hone : ∀ u ∈ cs, u.oneCell' = true) (who owner seq : Int) :
    Calls Try.prog 60 #[.agg cs.toArray, .int .i64 who, .int .i64 owner, .int .u64 seq] w fun e w' => ∃ b, e = .returned (.pointer (some ⟨b, 0, none⟩)) ∧ Sep w w' [blkT b 181 (H.hL cs who owner seq (.slice none 0 0) ⟨[], 0, 0, -1, 0, 0, 0⟩), rowT 0 136 2 (.slice none 0 0) 0 []] := by
  have HS := Lib.hid ((Sep.nil (Fr.refl [] w)).new 31 cs)
  obtain ⟨x0,x1,x2,x3,x4,x5,x6,x7,x8,x9,x10,x11,x12,x13,x14,x15,x16,x17,x18,x19,x20,x21,x22,x23, rfl⟩ := len24 hsz
  go_enter Try.func60, Try.ntmps60
  go_wp2_with (refine wpList_load_any 31 _ rfl rfl _ 0 rfl _ _ (HS.out.blk 0 rfl).range Try.underlying31 rfl (by kernel_rfl) ?_)
  go_ret
  have hS := (HS.out.new 181 (H.hL [x0, x1, x2, x3, x4, x5, x6, x7, x8, x9, x10, x11, x12, x13, x14, x15, x16, x17, x18, x19, x20, x21, x22, x23] who owner seq (.slice none 0 0) ⟨[], 0, 0, -1, 0, 0, 0⟩)).nilRow 0 136 2
  simp only [World.size_alloc] at hS
  exact ⟨_, rfl, hS.sub [1, 0] rfl (by decide)⟩
end Go.Proofs.Ytccioehckfdjdaa
