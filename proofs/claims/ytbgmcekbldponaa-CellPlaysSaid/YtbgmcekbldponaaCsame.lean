/- The walk of the law's own same. -/
import Derived.Test.YtbgmcekbldponaaCrdo
import Derived.Test.YtbgmcekbldponaaCtrace
set_option linter.unusedSimpArgs false
set_option linter.unusedVariables false
namespace Go.Proofs.Ytbgmcekbldponaa
open Go.RowKit Go.Tum Go.Tum.C

structure SameSt (W : World) (b X : Nat) (mc mt vc vt vl : Value) (m : M) : Prop where
  hm : MemAt W b mc mt m
  h1 : W.ownsRow 0 35 2 vc m.cells.length (flat enC m.cells)
  h2 : W.ownsRow 0 57 10 vt m.trace.length (flat enEv m.trace)
  h3 : W.ownsRow 0 57 10 vl m.trace.length (flat enEv m.trace)
  hb : Blk W X 31 [vc, vt]
theorem SameSt.fr {W W' : World} {b X : Nat} {mc mt vc vt vl : Value} {m : M} (h : SameSt W b X mc mt vc vt vl m) (f : Fr [] W W') : SameSt W' b X mc mt vc vt vl m :=
  ⟨h.hm.fr f (by simp), ownsRow_fr h.h1 f (by simp), ownsRow_fr h.h2 f (by simp), ownsRow_fr h.h3 f (by simp), h.hb.fr f (by simp)⟩
theorem row_form {W : World} {e : TypeId} {s n : Nat} {v : Value} {xs : List Value} (h : W.ownsRow 0 e s v n xs) (hn : 0 < n) : ∃ g c, v = .slice (some ⟨g, 0, none⟩) n c ∧ g < W.heap.size ∧ n ≤ c := by
  rcases ownsRow_form h with ⟨_, h0⟩ | ⟨g, c, e, h1, _, h2, _⟩
  · omega
  · exact ⟨g, c, e, h1, h2⟩

set_option maxHeartbeats 8000000 in
set_option maxRecDepth 100000 in
theorem same_any (w : World) (b : Nat) (mc mt vc vt : Value) (m : M) (hG : C.Good m) (ht : m.trace.length ≤ 100) (hM : MemAt w b mc mt m)
    (h1 : w.ownsRow 0 35 2 vc m.cells.length (flat enC m.cells)) (h2 : w.ownsRow 0 57 10 vt m.trace.length (flat enEv m.trace)) :
    Calls Try.prog 15 #[.pointer (some ⟨b, 0, none⟩), .agg #[vc, vt]] w fun e w' => e = .returned (.bool true) ∧ Fr [] w w' := by
  obtain ⟨la, lc, rfl⟩ := ownsRow_any h1
  obtain ⟨ta, tc, rfl⟩ := ownsRow_any h2
  have hfew := hM.few
  have hti : (m.trace.length : Int) ≤ 100 := by omega
  have hci : (m.cells.length : Int) ≤ 65536 := by omega
  have f0 : Fr [] w (w.alloc (.cells #[.slice la m.cells.length lc, .slice ta m.trace.length tc] 31)) := (Fr.refl [] w).alloc _
  have HB := Lib.hid (Blk.new w 31 [.slice la m.cells.length lc, .slice ta m.trace.length tc])
  have HM := Lib.hid hM; have H1 := Lib.hid h1; have H2 := Lib.hid h2; have HF0 := Lib.hid f0; have HG := Lib.hid hG
  clear hM h1 h2 f0 hG
  go_enter Try.func15, Try.ntmps15
  go_wp2_with fail
  refine (lawevents_any _ b mc mt _ 1000 (HM.out.fr HF0.out (by simp)) (by omega)).mono ?_
  rintro e w1 ⟨vl, rfl, hF⟩
  unfold EvRow at hF
  rw [List.take_of_length_le (show m.trace.length ≤ Int.toNat 1000 by show _ ≤ 1000; omega)] at hF
  obtain ⟨el, ec, rfl⟩ := hF.form
  have hrow : w1.ownsRow 0 57 10 (.slice el m.trace.length ec) m.trace.length (flat enEv m.trace) := by
    obtain ⟨_, fp, hp, _⟩ := hF
    exact hp.2
  have hst : SameSt w1 b w.heap.size mc mt (.slice la m.cells.length lc) (.slice ta m.trace.length tc) (.slice el m.trace.length ec) m :=
    ⟨(HM.out.fr HF0.out (by simp)).fr hF.fr (by simp), ownsRow_fr (ownsRow_fr H1.out HF0.out (by simp)) hF.fr (by simp), ownsRow_fr (ownsRow_fr H2.out HF0.out (by simp)) hF.fr (by simp), hrow, HB.out.fr hF.fr (by simp)⟩
  have HF1 := Lib.hid (HF0.out.trans hF.fr)
  have hX := hst.hb.lt
  have HST := Lib.hid hst
  clear hst hrow hF HM H1 H2 HB HF0
  generalize hXX : w.heap.size = X at *
  clear hXX
  have x0 := HST.out.hb.cell 0
  have x1 := HST.out.hb.cell 1
  simp only [List.getElem?_cons_zero, List.getElem?_cons_succ] at x0 x1
  have hn1 : ((m.cells.length : Int) != (m.cells.length : Int)) = false := by simp
  have hn2 : ((m.trace.length : Int) != (m.trace.length : Int)) = false := by simp
  go_wp2_with fail
  refine wp_region_fr [(1, [0, 2, 3, 4]), (2, [1]), (1, [5, 6, 7, 9, 10, 11]), (2, [8]), (1, [12, 13, 14, 15, 16, 17, 18, 19, 20, 21])] [] (by kernel_rfl) (by kernel_rfl) ?_
  simp only [theOps, nthOp, List.map_cons, List.map_nil, Array.getD_eq_getD_getElem?, List.getElem?_toArray, List.getElem?_cons_succ, List.getElem?_cons_zero, Option.getD_some]
  repeat ((first | refine wpSegs_soft ?_ | refine wpSegs_pure ?_ | refine wpSegs_here ?_); (repeat (first | go_big_quiet_step (fail) | quiet_step (fail))); refine wpQuiet_nil ?_)
  refine wpSegs_keep ?_
  go_wp2_with fail
  refine (size_any _ b mc mt m (HST.out.fr (Fr.refl [] w1).drew).hm).mono ?_
  rintro e w2 ⟨rfl, rfl⟩
  go_wp2_with fail
  refine ⟨⟨⟨_, (by exact ⟨rfl, rfl, rfl, Nat.le_refl _, fun _ _ _ => rfl⟩)⟩, rfl⟩, ?_⟩
  repeat ((first | refine wpSegs_soft ?_ | refine wpSegs_pure ?_ | refine wpSegs_here ?_); (repeat (first | go_big_quiet_step (fail) | quiet_step (fail))); refine wpQuiet_nil ?_)
  refine wpSegs_keep ?_
  go_wp2_with fail
  refine (total_any _ b mc mt m (HST.out.fr (Fr.refl [] w1).drew).hm).mono ?_
  rintro e w2 ⟨rfl, rfl⟩
  go_wp2_with fail
  refine ⟨⟨⟨_, (by exact ⟨rfl, rfl, rfl, Nat.le_refl _, fun _ _ _ => rfl⟩)⟩, rfl⟩, ?_⟩
  repeat ((first | refine wpSegs_soft ?_ | refine wpSegs_pure ?_ | refine wpSegs_here ?_); (repeat (first | go_big_quiet_step (fail) | quiet_step (fail))); refine wpQuiet_nil ?_)
  refine wpSegs_done ?_
  go_wp2_with fail
  go_loopg [40] m.cells.length (fun g vi wr => ∃ k, g + k = m.cells.length ∧ vi = .int .i64 (k : Int) ∧ Fr [] w1 wr)
  case atStart => exact ⟨0, by omega, rfl, (Fr.refl [] w1).drew⟩
  case round =>
    obtain ⟨k, hg, rfl, hf⟩ := hrel
    have hst := HST.out.fr hf
    by_cases hk : k < m.cells.length
    · have hki : (k : Int) < (m.cells.length : Int) := by omega
      obtain ⟨g, c, e, hgl, hgc⟩ := row_form hst.h1 (by omega)
      simp only [Value.slice.injEq, true_and] at e
      obtain ⟨rfl, rfl⟩ := e
      have hat : m.at k = m.cells[k] := by simp [M.at, List.getD_eq_getElem?_getD, hk]
      have c0 := ownsRow_cell hst.h1 (k * 2) (.int .u64 (m.at k).1) (by have := flat_get enC_len m.cells k hk 0 (by decide); rw [hat]; simpa [enC] using this)
      have c1 := ownsRow_cell hst.h1 (k * 2 + 1) (.int .u64 (m.at k).2) (by have := flat_get enC_len m.cells k hk 1 (by decide); rw [hat]; simpa [enC] using this)
      have hp := peek_at hk
      have HP := Lib.hid hp; have HF := Lib.hid hf; have HS := Lib.hid hst
      clear hp hf hst hat x0 x1
      generalize m.at k = cc at *
      obtain ⟨z1, z2⟩ := cc
      go_wp2_with fail
      refine (peek_any _ b mc mt m k (HS.out.fr ((Fr.refl [] wr).alloc (.cells #[.int .u64 z1, .int .u64 z2] 35))).hm).mono ?_
      rintro e w3 ⟨rfl, hf⟩
      rw [HP.out]
      have hbk := (Blk.new wr 35 [.int .u64 z1, .int .u64 z2]).fr hf (by simp)
      have q0 := hbk.cell 0
      have q1 := hbk.cell 1
      simp only [List.getElem?_cons_zero, List.getElem?_cons_succ] at q0 q1
      have ql := hbk.lt
      have HF3 := Lib.hid ((HF.out.alloc (.cells #[.int .u64 z1, .int .u64 z2] 35)).trans hf)
      clear hf hbk c0 c1
      go_wp2_with fail
      go_roundg (m.cells.length - (k + 1))
      case measure => omega
      case rel => exact ⟨k + 1, by omega, by go_num, HF3.out.alloc _⟩
    · obtain rfl : k = m.cells.length := by omega
      have HF := Lib.hid hf
      have x0 := hst.hb.cell 0
      have x1 := hst.hb.cell 1
      simp only [List.getElem?_cons_zero, List.getElem?_cons_succ] at x0 x1
      clear hf hst
      generalize gk = G at *
      go_wp2_with fail
      go_loopg [62] m.trace.length (fun g vi wr' => ∃ k, g + k = m.trace.length ∧ vi = .int .i64 (k : Int) ∧ Fr [] w1 wr')
      case atStart => exact ⟨0, by omega, rfl, HF.out⟩
      case round =>
        clear x0 x1
        obtain ⟨k, hg, rfl, hf⟩ := hrel
        have hst := HST.out.fr hf
        by_cases hk : k < m.trace.length
        · have hki : (k : Int) < (m.trace.length : Int) := by omega
          obtain ⟨g, c, e, hgl, hgc⟩ := row_form hst.h2 (by omega)
          simp only [Value.slice.injEq, true_and] at e
          obtain ⟨rfl, rfl⟩ := e
          obtain ⟨g2, c2, e, hgl2, hgc2⟩ := row_form hst.h3 (by omega)
          simp only [Value.slice.injEq, true_and] at e
          obtain ⟨rfl, rfl⟩ := e
          have hr2 := hst.h2
          have c_0 := ev_cells hr2 hk 0 (by decide) _ rfl
          have c_1 := ev_cells hr2 hk 1 (by decide) _ rfl
          have c_2 := ev_cells hr2 hk 2 (by decide) _ rfl
          have c_3 := ev_cells hr2 hk 3 (by decide) _ rfl
          have c_4 := ev_cells hr2 hk 4 (by decide) _ rfl
          have c_5 := ev_cells hr2 hk 5 (by decide) _ rfl
          have c_6 := ev_cells hr2 hk 6 (by decide) _ rfl
          have c_7 := ev_cells hr2 hk 7 (by decide) _ rfl
          have c_8 := ev_cells hr2 hk 8 (by decide) _ rfl
          have c_9 := ev_cells hr2 hk 9 (by decide) _ rfl
          rw [Nat.add_zero] at c_0
          have hr3 := ownsRow_fr hst.h3 ((Fr.refl [] wr).alloc (.cells (enEv m.trace[k]).toArray 57)) (by simp)
          have d_0 := ev_cells hr3 hk 0 (by decide) _ rfl
          have d_1 := ev_cells hr3 hk 1 (by decide) _ rfl
          have d_2 := ev_cells hr3 hk 2 (by decide) _ rfl
          have d_3 := ev_cells hr3 hk 3 (by decide) _ rfl
          have d_4 := ev_cells hr3 hk 4 (by decide) _ rfl
          have d_5 := ev_cells hr3 hk 5 (by decide) _ rfl
          have d_6 := ev_cells hr3 hk 6 (by decide) _ rfl
          have d_7 := ev_cells hr3 hk 7 (by decide) _ rfl
          have d_8 := ev_cells hr3 hk 8 (by decide) _ rfl
          have d_9 := ev_cells hr3 hk 9 (by decide) _ rfl
          rw [Nat.add_zero] at d_0
          have HF := Lib.hid hf
          clear hf hst hr2 hr3
          generalize m.trace[k] = x at *
          obtain ⟨x0, ⟨x1, x2, x3, x4, x5, x6⟩, ⟨x7, x8, x9⟩⟩ := x
          dsimp only [enEv] at c_0 c_1 c_2 c_3 c_4 c_5 c_6 c_7 c_8 c_9 d_0 d_1 d_2 d_3 d_4 d_5 d_6 d_7 d_8 d_9
          go_wp2_with fail
          refine wp_region_fr [(1, [0, 1, 2, 3, 4, 5])] [] (by kernel_rfl) (by kernel_rfl) ?_
          simp only [theOps, nthOp, List.map_cons, List.map_nil, Array.getD_eq_getD_getElem?, List.getElem?_toArray, List.getElem?_cons_succ, List.getElem?_cons_zero, Option.getD_some]
          repeat ((first | refine wpSegs_soft ?_ | refine wpSegs_pure ?_ | refine wpSegs_here ?_); (repeat (first | go_big_quiet_step (fail) | quiet_step (fail))); refine wpQuiet_nil ?_)
          refine wpSegs_done ?_
          go_wp2_with fail
          go_roundg (m.trace.length - (k + 1))
          case measure => omega
          case rel => exact ⟨k + 1, by omega, by go_num, (HF.out.alloc _).drew⟩
        · obtain rfl : k = m.trace.length := by omega
          have HF := Lib.hid hf
          clear hf hst
          generalize gk = G2 at *
          go_wp2_with fail
          go_loopg [74] 8 (fun g vi wr' => ∃ k, g + k = 8 ∧ vi = .int .i64 (k : Int) ∧ Fr [] w1 wr')
          case atStart => exact ⟨0, by omega, rfl, HF.out⟩
          case round =>
            obtain ⟨k, hg, rfl, hf⟩ := hrel
            have hst := HST.out.fr hf
            by_cases hk : k < 8
            · have hki : (k : Int) < 8 := by omega
              have y0 := hst.hb.cell 0
              have y1 := hst.hb.cell 1
              simp only [List.getElem?_cons_zero, List.getElem?_cons_succ] at y0 y1
              have yl := hst.hb.lt
              have hs : stepsOf m k = (countBy m.trace k : Int) := by unfold stepsOf; rw [if_pos (by omega), Int.toNat_natCast, HG.out.count k hk]
              have HSS := Lib.hid hs; have HF := Lib.hid hf; have HS := Lib.hid hst
              have hnn : ((countBy m.trace k : Int) != (countBy m.trace k : Int)) = false := by simp
              clear hs hf hst
              go_wp2_with fail
              refine wp_region_fr [(1, [0, 1, 3, 4]), (2, [2]), (3, [5]), (0, [6])] [] (by kernel_rfl) (by kernel_rfl) ?_
              simp only [theOps, nthOp, List.map_cons, List.map_nil, Array.getD_eq_getD_getElem?, List.getElem?_toArray, List.getElem?_cons_succ, List.getElem?_cons_zero, Option.getD_some]
              repeat ((first | refine wpSegs_soft ?_ | refine wpSegs_pure ?_ | refine wpSegs_here ?_); (repeat (first | go_big_quiet_step (fail) | quiet_step (fail))); refine wpQuiet_nil ?_)
              refine wpSegs_keep ?_
              go_wp2_with fail
              refine (steps_any _ b mc mt m k (HS.out.fr (Fr.refl [] _).drew).hm).mono ?_
              rintro e w5 ⟨rfl, rfl⟩
              rw [HSS.out]
              go_wp2_with fail
              refine ⟨⟨⟨_, (by exact ⟨rfl, rfl, rfl, Nat.le_refl _, fun _ _ _ => rfl⟩)⟩, rfl⟩, ?_⟩
              repeat ((first | refine wpSegs_soft ?_ | refine wpSegs_pure ?_ | refine wpSegs_here ?_); (repeat (first | go_big_quiet_step (fail) | quiet_step (fail))); refine wpQuiet_nil ?_)
              refine wpSegs_hard ?_
              go_wp2_with fail
              refine (rsteps_any _ la m.cells.length lc _ m.trace k (by omega) (HS.out.fr (Fr.refl [] _).drew).h2).mono ?_
              rintro e w6 ⟨rfl, hf⟩
              have HF6 := Lib.hid ((HF.out.drew).trans hf)
              clear hf
              go_wp2_with fail
              repeat ((first | refine wpSegs_soft ?_ | refine wpSegs_pure ?_ | refine wpSegs_here ?_); (repeat (first | go_big_quiet_step (fail) | quiet_step (fail))); refine wpQuiet_nil ?_)
              refine wpSegs_done ?_
              go_wp2_with fail
              go_roundg (8 - (k + 1))
              case measure => omega
              case rel => exact ⟨k + 1, by omega, by go_num, HF6.out⟩
            · obtain rfl : k = 8 := by omega
              have HF := Lib.hid hf
              clear hf hst
              go_wp2_with fail
              go_ret
              exact ⟨rfl, HF1.out.trans HF.out⟩
end Go.Proofs.Ytbgmcekbldponaa
