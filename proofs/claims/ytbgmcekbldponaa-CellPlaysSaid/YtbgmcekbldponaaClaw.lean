/- The walks of the law's own events, alive. -/
import Derived.Test.YtbgmcekbldponaaCfun
import Derived.Deep.LoopGhost
set_option linter.unusedSimpArgs false
set_option linter.unusedVariables false
namespace Go.Proofs.Ytbgmcekbldponaa
open Go.RowKit Go.Tum Go.Tum.C

theorem fresh_raw {w w' : World} {b : Nat} {m : M} (h : Fresh w w' (memT b m)) : C.Good m ∧ ∃ vc vt, MemAt w' b vc vt m := by
  obtain ⟨_, fp, ⟨hg, vc, vt, _, hp⟩, _⟩ := h
  exact ⟨hg, vc, vt, hp⟩
/-- The cells of an event of a row. -/
theorem ev_cells {w : World} {base g n c : Nat} {l : List Ev} (h : w.ownsRow base 57 10 (.slice (some ⟨g, 0, none⟩) n c) n (flat enEv l)) {k : Nat} (hk : k < l.length) (j : Nat) (hj : j < 10) (u : Value) (hu : (enEv l[k])[j]? = some u) : w.cell? ⟨g, k * 10 + j, none⟩ = some u :=
  ownsRow_cell h _ _ ((flat_get enEv_len l k hk j hj).trans hu)

def EvRow (w w' : World) (v : Value) (l : List Ev) : Prop := Fresh w w' (rowT 0 57 10 v l.length (flat enEv l))
def EventsRel (w : World) (tr : List Ev) (most : Int) (vc : Value) (g : Nat) (vo vi : Value) (wr : World) : Prop :=
  ∃ k : Nat, k ≤ tr.length ∧ k + g = tr.length ∧ vi = .int .i64 (k : Int) ∧ (k : Int) < most ∧ Sep w wr [rowT 0 57 10 vo k (flat enEv (tr.take k)), rowT 0 57 10 vc tr.length (flat enEv tr)]

set_option maxHeartbeats 2000000 in
theorem lawevents_any (w : World) (b : Nat) (vc vt : Value) (m : M) (most : Int) (hM : MemAt w b vc vt m) (ht : m.trace.length ≤ 100000) :
    Calls Try.prog 16 #[.pointer (some ⟨b, 0, none⟩), .int .i64 most] w fun e w' => ∃ v, e = .returned v ∧ EvRow w w' v (m.trace.take most.toNat) := by
  unfold EvRow
  by_cases hm : most ≤ 0
  · have e : m.trace.take most.toNat = [] := by rw [show most.toNat = 0 from by omega]; rfl
    rw [e]
    clear hM
    go_enter Try.func16, Try.ntmps16
    go_wp2_with fail
    go_ret
    refine ⟨_, rfl, (Fr.refl [] w).alloc _, [w.heap.size], ⟨rfl, World.ownsRow_made w #[] 0 (Nat.zero_le _) (by unfold maxLen; omega) (by simp)⟩, by simp⟩
  · obtain ⟨mo, rfl⟩ : ∃ mo : Nat, most = mo := ⟨most.toNat, by omega⟩
    rw [Int.toNat_natCast]
    obtain ⟨i0, hi0, hz0, hz1, hz2⟩ := info_parts C_infoEvent
    obtain ⟨cs, st, tr⟩ := m
    dsimp only at ht ⊢
    have HM := Lib.hid hM; clear hM
    go_enter Try.func16, Try.ntmps16
    go_wp2_with fail
    refine (events_any _ b vc vt ⟨cs, st, tr⟩ (HM.out.fr ((Fr.refl [] w).alloc _) (by simp)) ht).mono ?_
    clear HM
    dsimp only
    rintro e w1 ⟨ve, rfl, hF⟩
    obtain ⟨la, lc, rfl⟩ := hF.form
    have hout : Fresh w (w.alloc (.cells #[] 57)) (rowT 0 57 10 (.slice (some ⟨w.heap.size, 0, none⟩) 0 0) 0 []) :=
      ⟨(Fr.refl [] w).alloc _, [w.heap.size], ⟨rfl, World.ownsRow_made w #[] 0 (Nat.zero_le _) (by unfold maxLen; omega) (by simp)⟩, by simp⟩
    have hS : Sep w w1 [rowT 0 57 10 (.slice (some ⟨w.heap.size, 0, none⟩) 0 0) 0 (flat enEv (tr.take 0)), rowT 0 57 10 (.slice la tr.length lc) tr.length (flat enEv tr)] :=
      (((Sep.nil (Fr.refl [] w)).fresh hout).fresh hF).sub [1, 0] rfl (by decide)
    have HS := Lib.hid hS
    clear hS hout hF
    go_wp2_with fail
    go_loopg [5, 15] tr.length (fun g vo vi wr => EventsRel w tr mo (.slice la tr.length lc) g vo vi wr)
    case atStart => exact ⟨0, Nat.zero_le _, by omega, rfl, by omega, HS.out⟩
    case round =>
      clear HS
      obtain ⟨k, hk, hg, rfl, hkm, hS⟩ := hrel
      obtain ⟨oa, oc, rfl⟩ := hS.form 0 rfl
      have hti : (tr.length : Int) ≤ 100000 := by omega
      by_cases hlt : k < tr.length
      · have hlti : (k : Int) < (tr.length : Int) := by omega
        have hr := hS.row 1 rfl
        obtain ⟨g, c, e, hgl⟩ : ∃ g c, Value.slice la tr.length lc = .slice (some ⟨g, 0, none⟩) tr.length c ∧ g < wr.heap.size := by
          rcases ownsRow_form hr with ⟨_, h0⟩ | ⟨g, c, e, h1, _⟩
          · omega
          · exact ⟨g, c, e, h1⟩
        simp only [Value.slice.injEq, true_and] at e
        obtain ⟨rfl, rfl⟩ := e
        have c0 := ev_cells hr hlt 0 (by decide) _ rfl
        rw [Nat.add_zero] at c0
        have c1 := ev_cells hr hlt 1 (by decide) _ rfl
        have c2 := ev_cells hr hlt 2 (by decide) _ rfl
        have c3 := ev_cells hr hlt 3 (by decide) _ rfl
        have c4 := ev_cells hr hlt 4 (by decide) _ rfl
        have c5 := ev_cells hr hlt 5 (by decide) _ rfl
        have c6 := ev_cells hr hlt 6 (by decide) _ rfl
        have c7 := ev_cells hr hlt 7 (by decide) _ rfl
        have c8 := ev_cells hr hlt 8 (by decide) _ rfl
        have c9 := ev_cells hr hlt 9 (by decide) _ rfl
        have htk : flat enEv (tr.take (k + 1)) = flat enEv (tr.take k) ++ enEv tr[k] := by
          rw [List.take_succ_eq_append_getElem hlt, flat_app, flat_one]
        generalize hx : tr[k] = x at *
        obtain ⟨x0, ⟨x1, x2, x3, x4, x5, x6⟩, ⟨x7, x8, x9⟩⟩ := x
        dsimp only [enEv] at c0 c1 c2 c3 c4 c5 c6 c7 c8 c9
        have hS2 := (hS.new 57 (enEv ⟨x0, ⟨x1, x2, x3, x4, x5, x6⟩, ⟨x7, x8, x9⟩⟩)).new 57 (enEv ⟨x0, ⟨x1, x2, x3, x4, x5, x6⟩, ⟨x7, x8, x9⟩⟩)
        simp only [World.size_alloc] at hS2
        have HS := Lib.hid hS2; clear hS2
        have HT := Lib.hid htk; have HG := Lib.hid hg
        clear hS hr htk hx hg
        go_wp2_with (at_builtin; go_must (refine wpList_push_blk _ rfl _ _ 29 rfl 0 57 i0 _ 10 80 Try.underlying29 hi0 hz0 hz1 hz2 rfl (by decide) (.slice oa k oc) k (flat enEv (tr.take k)) rfl (HS.out.row 2 rfl) (enEv ⟨x0, ⟨x1, x2, x3, x4, x5, x6⟩, ⟨x7, x8, x9⟩⟩) _ _ rfl (HS.out.blk 0 rfl) rfl (enEv_one _) (by unfold maxLen; omega) (by omega) (Nat.zero_le _) ?_))
        intro g2 c2' w2 hown hg2 hgg hc1 hc2'
        have h3 := (HS.out.grown 2 rfl hown hg2 (fun q e => by
          rcases hgg with h1 | h1
          · exact .inl (h1.trans e)
          · right; simp only [Value.ownBlock, Option.some.injEq] at e; rw [← e, h1]; simp)).tail.tail
        rw [← HT.out] at h3
        have HS3 := Lib.hid (show Sep w w2 [rowT 0 57 10 (.slice (some ⟨g2, 0, none⟩) (k + 1) c2') (k + 1) (flat enEv (tr.take (k + 1))), rowT 0 57 10 (.slice (some ⟨g, 0, none⟩) tr.length lc) tr.length (flat enEv tr)] from h3)
        clear h3 hown hg2 hgg HS HT c0 c1 c2 c3 c4 c5 c6 c7 c8 c9
        by_cases hmo : k + 1 = mo
        · have hb1 : (((k : Int) + 1) == (mo : Int)) = true := by simp; omega
          have HM := Lib.hid hmo; clear hmo
          go_wp2_with fail
          go_ret
          refine ⟨_, rfl, ?_⟩
          rw [← HM.out, List.length_take, Nat.min_eq_left hlt]
          exact (HS3.out.sub (Ts' := [rowT 0 57 10 (.slice (some ⟨g2, 0, none⟩) (k + 1) c2') (k + 1) (flat enEv (tr.take (k + 1)))]) [0] rfl (by decide)).toFresh
        · have hb1 : (((k : Int) + 1) == (mo : Int)) = false := by simp; omega
          have HM := Lib.hid hmo; clear hmo
          go_wp2_with fail
          go_roundg (gk - 1)
          case measure => have := HG.out; omega
          case rel => exact ⟨k + 1, hlt, by have := HG.out; omega, by go_num, by have := HM.out; omega, HS3.out⟩
      · obtain rfl : k = tr.length := by omega
        have HS := Lib.hid hS
        clear hS hg
        go_wp2_with fail
        go_ret
        refine ⟨_, rfl, ?_⟩
        have := HS.out.sub (Ts' := [rowT 0 57 10 (.slice oa tr.length oc) tr.length (flat enEv (tr.take tr.length))]) [0] rfl (by decide)
        rw [List.take_length] at this
        have e : tr.take mo = tr := List.take_of_length_le (by omega)
        show Fresh w wr (rowT 0 57 10 (.slice oa tr.length oc) (tr.take mo).length (flat enEv (tr.take mo)))
        rw [e]
        exact this.toFresh

theorem do_to {w0 w : World} {R : List Thing} {b : Nat} {m : M} (h : Sep w0 w (memT b m :: R)) (ht : m.trace.length ≤ 100000) (who : Int) (op : Op6) {o : Out3} {er : Int} {m' : M} (e1 : m.told who op = o) (e2 : err m.cells.length who op = er) (e3 : m.step who op = m') :
    Calls Try.prog 12 #[.pointer (some ⟨b, 0, none⟩), .int .i64 who, opV op] w fun e w' => e = .returned (.tuple #[outV o, .int .i64 er]) ∧ Sep w0 w' (memT b m' :: R) := by
  have := do_any h ht who op
  rw [e1, e2, e3] at this
  exact this

def A1 : M := ⟨[(0, 0), (7, 1)], [0, 1, 0, 0, 0, 0, 0, 0], [⟨1, ⟨2, 1, 0, 0, 7, 1⟩, ⟨0, 0, true⟩⟩]⟩
def A2 : M := ⟨[(0, 0), (7, 1)], [0, 1, 1, 0, 0, 0, 0, 0], [⟨1, ⟨2, 1, 0, 0, 7, 1⟩, ⟨0, 0, true⟩⟩, ⟨2, ⟨2, 1, 0, 0, 8, 1⟩, ⟨7, 1, false⟩⟩]⟩
set_option maxHeartbeats 4000000 in
set_option maxRecDepth 100000 in
theorem alive_any (w : World) : Calls Try.prog 9 #[] w fun e w' => e = .returned (.bool true) ∧ Fr [] w w' := by
  go_enter Try.func9, Try.ntmps9
  go_wp2_with fail
  refine (new_any w 2 (by decide)).mono ?_
  rintro e w1 ⟨b, rfl, hF⟩
  have H1 := Lib.hid ((Sep.nil (Fr.refl [] w)).fresh hF)
  clear hF
  go_wp2_with fail
  obtain ⟨_, vc, vt, hM⟩ := sep_mem H1.out 0 rfl
  refine (size_any _ b vc vt _ hM).mono ?_
  rintro e w2 ⟨rfl, rfl⟩
  rw [show (newM 2).cells.length = 2 from rfl]
  clear hM
  go_wp2_with fail
  refine (do_to (o := ⟨0, 0, true⟩) (er := 0) (m' := A1) H1.out (by decide) 1 ⟨2, 1, 0, 0, 7, 1⟩ rfl rfl rfl).mono ?_
  rintro e w2 ⟨rfl, hS⟩
  have H2 := Lib.hid (hS.new 41 [.int .u64 0, .int .u64 0, .bool true])
  clear hS H1
  unfold outV
  go_wp2_with fail
  refine ((H2.out.call 1 rfl (fun R hR => do_to (o := ⟨7, 1, false⟩) (er := 0) (m' := A2) hR (by decide) 2 ⟨2, 1, 0, 0, 8, 1⟩ rfl rfl rfl))).mono ?_
  rintro e w3 ⟨rfl, hS⟩
  have H3 := Lib.hid (hS.new 41 [.int .u64 7, .int .u64 1, .bool false])
  clear hS H2
  unfold outV
  go_wp2_with fail
  refine ((H3.out.call 2 rfl (fun R hR => do_to (o := ⟨0, 0, false⟩) (er := 31) (m' := A2) hR (by decide) 2 ⟨0, 2, 0, 0, 0, 0⟩ rfl rfl rfl))).mono ?_
  rintro e w4 ⟨rfl, hS⟩
  have H4 := Lib.hid (hS.new 41 [.int .u64 0, .int .u64 0, .bool false])
  clear hS H3
  unfold outV
  go_wp2_with fail
  obtain ⟨_, vc, vt, hM⟩ := sep_mem H4.out 3 rfl
  refine (peek_any _ b vc vt _ 1 hM).mono ?_
  rintro e w5 ⟨rfl, hf⟩
  rw [show peek A2 1 = ((7, 1), true) from rfl]
  have H5 := Lib.hid ((H4.out.fr0 hf).new 35 [.int .u64 7, .int .u64 1])
  clear hf hM H4
  go_wp2_with fail
  obtain ⟨hG, vc, vt, hM⟩ := sep_mem H5.out 4 rfl
  refine (copy_any _ b vc vt _ hM hG (by decide)).mono ?_
  rintro e w6 ⟨b', rfl, hF⟩
  have H6 := Lib.hid (H5.out.fresh hF)
  clear hF hM hG H5
  go_wp2_with fail
  obtain ⟨hG, vc, vt, hM⟩ := sep_mem H6.out 5 rfl
  refine (lawevents_any _ b vc vt _ 9 hM (by decide)).mono ?_
  rintro e w7 ⟨vl, rfl, hF⟩
  unfold EvRow at hF
  rw [show A2.trace.take (Int.toNat 9) = A2.trace from rfl] at hF
  obtain ⟨l7, c7, rfl⟩ := hF.form
  have hS := H6.out.fresh hF
  have hr := hS.row 0 rfl
  obtain ⟨g, c, e, hgl⟩ : ∃ g c, Value.slice l7 A2.trace.length c7 = .slice (some ⟨g, 0, none⟩) A2.trace.length c ∧ g < w7.heap.size := by
    rcases ownsRow_form hr with ⟨_, h0⟩ | ⟨g, c, e, h1, _⟩
    · exact absurd h0 (by decide)
    · exact ⟨g, c, e, h1⟩
  simp only [Value.slice.injEq, true_and] at e
  obtain ⟨rfl, rfl⟩ := e
  have r0 : w7.cell? ⟨g, 10, none⟩ = some (.int .i64 2) := ev_cells hr (k := 1) (by decide) 0 (by decide) _ rfl
  have x0 := (hS.blk 5 rfl).cell 0
  have x1 := (hS.blk 5 rfl).cell 1
  have x2 := (hS.blk 5 rfl).cell 2
  have y0 := (hS.blk 4 rfl).cell 0
  have y1 := (hS.blk 4 rfl).cell 1
  have y2 := (hS.blk 4 rfl).cell 2
  have z0 := (hS.blk 2 rfl).cell 0
  have z1 := (hS.blk 2 rfl).cell 1
  simp only [List.getElem?_cons_zero, List.getElem?_cons_succ] at x0 x1 x2 y0 y1 y2 z0 z1
  have xl := (hS.blk 5 rfl).lt
  have yl := (hS.blk 4 rfl).lt
  have zl := (hS.blk 2 rfl).lt
  have H7 := Lib.hid hS
  rw [show A2.trace.length = 2 from rfl]
  clear hS hr hF hM hG H6
  go_wp2_with fail
  obtain ⟨_, vc, vt, hM⟩ := sep_mem H7.out 6 rfl
  refine (steps_any _ b vc vt _ 2 hM).mono ?_
  rintro e w8 ⟨rfl, rfl⟩
  rw [show stepsOf A2 2 = 1 from rfl]
  go_wp2_with fail
  refine (total_any _ b vc vt _ hM).mono ?_
  rintro e w8 ⟨rfl, rfl⟩
  rw [show A2.trace.length = 2 from rfl]
  clear hM
  go_wp2_with fail
  obtain ⟨_, vc, vt, hM⟩ := sep_mem H7.out 1 rfl
  refine (total_any _ b' vc vt _ hM).mono ?_
  rintro e w8 ⟨rfl, rfl⟩
  rw [show A2.trace.length = 2 from rfl]
  clear hM
  go_wp2_with fail
  refine ((H7.out.call 6 rfl (fun R hR => set_any hR 0 (7, 1)))).mono ?_
  rintro e w8 ⟨rfl, hS⟩
  rw [show putErr A2 0 = 0 from rfl]
  have HF := Lib.hid hS.fr
  clear hS H7
  go_wp2_with fail
  go_ret
  exact ⟨rfl, HF.out⟩
end Go.Proofs.Ytbgmcekbldponaa
