/- The walks of package pool: New, Status, Top, Mark, Back. -/
import Derived.Test.YtccioehckfdjdaaPplain
import Derived.Test.YtccioehckfdjdaaMLoad
set_option linter.unusedSimpArgs false
set_option linter.unusedVariables false
namespace Go.Tum
theorem Sep.nilRow8 {w0 w : World} {Ts : List Thing} (h : Sep w0 w Ts) (base : Nat) (e : TypeId) (size : Nat) : Sep w0 w (rowT base e size (.slice none 0 0) 0 [] :: Ts) :=
  h.push (Fr.refl [] w) (fp := []) ⟨rfl, World.ownsRow_nil w base e size⟩ (by simp)
end Go.Tum
namespace Go.Proofs.Ytccioehckfdjdaa
open Go.RowKit Go.Tum Go.Tum.Y
theorem pcfg_any (w : World) (c : Cfg) : Calls Try.prog 102 #[mapV c] w fun e w' => e = .returned (cfgV c) ∧ Fr [] w w' := by
  unfold mapV mapCells cfgV
  go_enter Try.func102, Try.ntmps102
  go_wp2
  exact bodyPost_ret (v := .agg #[.int .i64 c.t, .int .i64 c.b, .int .i64 c.w, .int .i64 c.f, .int .u64 c.fi, .int .u64 c.la]) (by simp [results, Try.results102, go_sem]) rfl ⟨rfl, by first | exact ((Fr.refl [] _).alloc _).alloc _ | exact (((Fr.refl [] _).alloc _).alloc _).drew⟩
set_option maxHeartbeats 2000000 in
theorem pstatus_of {w0 w : World} {R : List Thing} (b : Nat) (c : Cfg) (seq : Int) (p : P.St) (hS : Sep w0 w (poolT c seq b p :: R)) :
    Calls Try.prog 29 #[.pointer (some ⟨b, 0, none⟩)] w fun e w' => e = .returned (.int .i64 p.s) ∧ Fr [] w w' := by
  obtain ⟨mb, la, lc, h2⟩ := poolT_of hS
  have hsz : (mapCells c).length = 24 := rfl
  generalize mapCells c = cs at *
  have k32 := ((h2.blk 0 rfl).cell 32).trans (P.pf hsz seq (.map (some mb)) (.slice la p.lim.length lc) p).s
  have kl := (h2.blk 0 rfl).lt
  clear h2 hS
  go_enter Try.func29, Try.ntmps29
  go_wp2_with fail
  go_ret
  exact ⟨rfl, Fr.refl _ _⟩
set_option maxHeartbeats 2000000 in
theorem pmark_of {w0 w : World} {R : List Thing} (b : Nat) (c : Cfg) (seq : Int) (p : P.St) (hS : Sep w0 w (poolT c seq b p :: R)) :
    Calls Try.prog 38 #[.pointer (some ⟨b, 0, none⟩)] w fun e w' => e = .returned (.agg [Value.int .i64 p.nt, .int .i64 p.nl].toArray) ∧ Fr [] w w' := by
  obtain ⟨mb, la, lc, h2⟩ := poolT_of hS
  have hsz : (mapCells c).length = 24 := rfl
  generalize mapCells c = cs at *
  have hbw := (h2.blk 0 rfl).lt
  have hS2 := (h2.new 83 [.int .i64 0, .int .i64 0])
  have kf := P.pf hsz seq (.map (some mb)) (.slice la p.lim.length lc) p
  have k29 := ((hS2.blk 1 rfl).cell 29).trans kf.nt
  have k30 := ((hS2.blk 1 rfl).cell 30).trans kf.nl
  have kl := (hS2.blk 1 rfl).lt
  have hne : ¬ b = w.heap.size := by omega
  have HS := Lib.hid ((Sep.nil (Fr.refl [] w)).new 83 [.int .i64 0, .int .i64 0])
  have hone : ∀ u ∈ [Value.int .i64 p.nt, .int .i64 p.nl], u.oneCell' = true := by simp [Value.oneCell']
  clear h2 hS hS2 kf
  go_enter Try.func38, Try.ntmps38
  go_wp2_with (refine wpList_store_sep HS.out 0 rfl [.int .i64 p.nt, .int .i64 p.nl] 83 _ _ rfl rfl rfl rfl rfl (by kernel_rfl) hone (fun wA hA _ => ?_); have HA := Lib.hid hA; clear hA)
  exact bodyPost_ret (v := .agg [Value.int .i64 p.nt, .int .i64 p.nl].toArray) (res_cell Try.results38 rfl (HA.out.blk 0 rfl).range Try.underlying83 rfl (by kernel_rfl)) rfl ⟨rfl, HA.out.fr⟩
set_option maxHeartbeats 2000000 in
theorem pback_of {w0 w : World} {R : List Thing} (b : Nat) (c : Cfg) (seq : Int) (p : P.St) (x y : Int) (hS : Sep w0 w (poolT c seq b p :: R)) :
    Calls Try.prog 43 #[.pointer (some ⟨b, 0, none⟩), .agg #[.int .i64 x, .int .i64 y]] w fun e w' => e = .returned (.tuple #[]) ∧ Sep w0 w' (poolT c seq b { p with nt := x, nl := y } :: R) := by
  obtain ⟨mb, la, lc, h2⟩ := poolT_of hS
  have hsz : (mapCells c).length = 24 := rfl
  have HTO := Lib.hid (fun (w' : World) hS => poolT_to (w0 := w0) (w := w') (R := R) (c := c) (seq := seq) (b := b) (mb := mb) (n := p.next.toNat) (k := p.lim.length) (v := .slice la p.lim.length lc) (p := { p with nt := x, nl := y }) (Nat.le_refl _) rfl hS)
  generalize poolT c seq b { p with nt := x, nl := y } = TH at *
  generalize mapCells c = cs at *
  have HS := Lib.hid (h2.new 83 [.int .i64 x, .int .i64 y]); clear h2 hS
  have f29 := (HS.out.blk 1 rfl).froz 29
  have f30 := (HS.out.blk 1 rfl).froz 30
  have kf := P.pf hsz seq (.map (some mb)) (.slice la p.lim.length lc) p
  have k29 := ((HS.out.blk 1 rfl).cell 29).trans kf.nt
  have k30 := ((HS.out.blk 1 rfl).cell 30).trans kf.nl
  have kl := (HS.out.blk 1 rfl).lt
  clear kf
  have hne : ¬ b = w.heap.size := fun e => HS.out.ne 0 1 rfl rfl (by decide) e.symm
  have hS2 := (HS.out.set 1 rfl 29 (.int .i64 x)).set 1 rfl 30 (.int .i64 y)
  simp only [List.set_cons_zero, List.set_cons_succ, P.poolL_nt hsz, P.poolL_nl hsz] at hS2
  have HS2 := Lib.hid hS2; clear hS2
  go_enter Try.func43, Try.ntmps43
  go_wp2_with fail
  go_end0
  exact ⟨rfl, HTO.out _ HS2.out.tail⟩
theorem pnew_any (w : World) (c : Cfg) (seq : Int) :
    Calls Try.prog 26 #[mapV c, .int .u64 seq] w fun e w' => ∃ b, e = .returned (.pointer (some ⟨b, 0, none⟩)) ∧ Sep w w' [poolT c seq b P.new0] := by
  have hsz : (mapCells c).length = 24 := rfl
  have hone : ∀ u ∈ mapCells c, u.oneCell' = true := by simp [mapCells, Value.oneCell']
  have HTO := Lib.hid (fun (w' : World) (b mb : Nat) (hS : Sep w w' [blkT b 162 (P.poolL (mapCells c) seq (.map (some mb)) (.slice none 0 0) P.new0), mapT Try.prog 22 3 .u64 .i64 mb 0 P.new0.f, rowT 0 22 1 (.slice none 0 0) 0 []]) => poolT_to (w0 := w) (w := w') (R := []) (c := c) (seq := seq) (b := b) (mb := mb) (n := 0) (k := 0) (v := .slice none 0 0) (p := P.new0) (Nat.zero_le _) rfl hS)
  have HEX : ∃ TH : Nat → Thing, ∀ b, poolT c seq b P.new0 = TH b := ⟨_, fun _ => rfl⟩
  obtain ⟨TH, hTH⟩ := HEX
  simp only [hTH] at *
  clear hTH
  unfold mapV
  generalize mapCells c = cs at *
  have HS := Lib.hid ((Sep.nil (Fr.refl [] w)).new 31 cs)
  have hmm := @run_makeMap Try.prog
  obtain ⟨x0,x1,x2,x3,x4,x5,x6,x7,x8,x9,x10,x11,x12,x13,x14,x15,x16,x17,x18,x19,x20,x21,x22,x23, rfl⟩ := len24 hsz
  go_enter Try.func26, Try.ntmps26
  go_wp2_with (refine wpList_load_any 31 _ rfl rfl _ 0 rfl _ _ (HS.out.blk 0 rfl).range Try.underlying31 rfl (by kernel_rfl) ?_)
  go_ret
  have hS := (((HS.out.mapNew Try.prog 22 3 .u64 .i64).new 162 (P.poolL [x0, x1, x2, x3, x4, x5, x6, x7, x8, x9, x10, x11, x12, x13, x14, x15, x16, x17, x18, x19, x20, x21, x22, x23] seq (.map (some (w.heap.size + 1))) (.slice none 0 0) P.new0))).nilRow8 0 22 1
  simp only [World.size_alloc] at hS
  exact ⟨_, rfl, HTO.out _ _ _ (hS.sub [1, 2, 0] rfl (by decide))⟩
set_option maxHeartbeats 4000000 in
theorem ptop_of {w0 w : World} {R : List Thing} (b : Nat) (c : Cfg) (hok : Y.Ok c) (seq : Int) (p : P.St) (hp : 0 ≤ p.nt ∧ p.nt ≤ 64) (hS : Sep w0 w (poolT c seq b p :: R)) :
    Calls Try.prog 52 #[.pointer (some ⟨b, 0, none⟩)] w fun e w' => e = .returned (.tuple #[.int .i64 (P.top c p).1, .bool (P.top c p).2]) ∧ Fr [] w w' := by
  obtain ⟨mb, la, lc, h2⟩ := poolT_of hS
  have hsz : (mapCells c).length = 24 := rfl
  have HA := Lib.hid (fun w => at_any w c hok 13 (p.nt - 1) 0)
  unfold P.top
  unfold mapV at *
  generalize mapCells c = cs at *
  have k29 := ((h2.blk 0 rfl).cell 29).trans (P.pf hsz seq (.map (some mb)) (.slice la p.lim.length lc) p).nt
  have kl := (h2.blk 0 rfl).lt
  have hmd := (h2.blk 0 rfl).drew
  clear h2 hS
  obtain ⟨pn, pf, pwt, pwl, nt, nl, lim, ps⟩ := p
  unfold P.poolL at hmd
  dsimp only at *
  by_cases h0 : nt = 0
  · subst h0
    go_enter Try.func52, Try.ntmps52
    go_wp2_with fail
    go_ret2
    exact ⟨rfl, Fr.refl _ _⟩
  · rw [if_neg h0]
    have d0 : (nt == 0) = false := by simpa using h0
    go_enter Try.func52, Try.ntmps52
    go_wp2_with fail
    refine wp_region_fr [(1, [0, 1, 2, 3, 4, 5, 6, 7, 8, 9]), (3, [10]), (0, [11, 12])] [] (by kernel_rfl) (by kernel_rfl) ?_
    simp only [theOps, nthOp, List.map_cons, List.map_nil, Array.getD_eq_getD_getElem?, List.getElem?_toArray, List.getElem?_cons_succ, List.getElem?_cons_zero, Option.getD_some]
    refine wpSegs_soft ?_
    iterate 3 (first | go_big_quiet_step (fail) | quiet_step (fail))
    refine wpQuiet_load_mid 31 _ b 0 cs _ rfl rfl rfl (rangeAt_pre hmd (by simp)) Try.underlying31 rfl (by rw [hsz]; kernel_rfl) ?_
    simp only [Act.put, List.setIfInBounds_toArray, List.set_cons_zero, List.set_cons_succ]
    repeat (first | go_big_quiet_step (fail) | quiet_step (fail))
    refine wpQuiet_nil ?_
    refine wpSegs_hard ?_
    go_wp2_with fail
    refine (HA.out _).mono ?_
    rintro e w2 ⟨rfl, hf⟩
    have HF := Lib.hid hf.from_to; clear hf
    go_wp2_with fail
    repeat ((first | refine wpSegs_soft ?_ | refine wpSegs_pure ?_ | refine wpSegs_here ?_); (repeat (first | go_big_quiet_step (fail) | quiet_step (fail))); refine wpQuiet_nil ?_)
    refine wpSegs_done ?_
    go_wp2_with fail
    go_ret2
    exact ⟨rfl, HF.out⟩
end Go.Proofs.Ytccioehckfdjdaa
