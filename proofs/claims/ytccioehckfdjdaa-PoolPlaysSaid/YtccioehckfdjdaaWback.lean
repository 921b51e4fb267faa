/- The walk of (*wset.Set).Back. -/
import Derived.Test.YtccioehckfdjdaaMWb
namespace Go.Proofs.Ytccioehckfdjdaa
open Go.RowKit Go.Tum Go.Tum.W

def BackPost (w : World) (base b : Nat) (fp : List Nat) (s : S) (mark : Int) (e : Ending) (w' : World) : Prop :=
  e = .returned (.bool (back s mark).2) ∧ IsSet w' base b fp (back s mark).1 ∧ Fr fp w w'

def BackRel (w : World) (base b : Nat) (la : Option Addr) (lc bt c : Nat) (da : Option Addr) (dc m : Nat) (pos : Nat → Nat) (mark : Nat) (fin : S) (g : Nat) (wr : World) : Prop :=
  ∃ tab s, SetAt wr base b (.slice la s.list.length lc) (.slice (some ⟨bt, 0, none⟩) m c) (.slice da s.done.length dc) m tab pos s ∧ W.Good s ∧ mark ≤ s.done.length ∧
    undoTo mark s.done.length s = fin ∧ g = s.done.length ∧ s.done.length ≤ 1000000 ∧ Fr (fpOf b (.slice la 0 lc) (.slice (some ⟨bt, 0, none⟩) m c) (.slice da 0 dc)) w wr

theorem fp_len (b : Nat) (la : Option Addr) (n lc : Nat) (vt : Value) (da : Option Addr) (k dc : Nat) : fpOf b (.slice la n lc) vt (.slice da k dc) = fpOf b (.slice la 0 lc) vt (.slice da 0 dc) := by
  cases la <;> cases da <;> rfl

set_option maxHeartbeats 1000000 in
theorem back_no (base b : Nat) (w : World) (fp : List Nat) (s : S) (mark : Int) (h : IsSet w base b fp s) (hm : mark < 0 ∨ (s.done.length : Int) < mark) :
    Calls Try.prog 44 #[.pointer (some ⟨b, 0, none⟩), .int .i64 mark] w (BackPost w base b fp s mark) := by
  have hb : back s mark = (s, false) := by simp [back, hm]
  unfold BackPost
  rw [hb]
  obtain ⟨vl, vt, vd, m, tab, pos, h, rfl⟩ := h
  obtain ⟨la, lc, rfl⟩ := ownsRow_any h.rdone
  have h1 := h.blk.cell 3
  simp only [List.getElem?_cons_succ, List.getElem?_cons_zero] at h1
  have H := Lib.hid h
  clear h hb
  by_cases hneg : mark < 0
  · have hd : decide (mark < 0) = true := by simpa using hneg
    clear hm
    go_enter Try.func44, Try.ntmps44
    go_wp2
    go_ret
    exact ⟨rfl, ⟨_, _, _, m, tab, pos, H.out, rfl⟩, Fr.refl _ _⟩
  · have hd : decide (mark < 0) = false := by simpa using hneg
    have hlt : (s.done.length : Int) < mark := by omega
    clear hm
    go_enter Try.func44, Try.ntmps44
    go_wp2
    go_ret
    exact ⟨rfl, ⟨_, _, _, m, tab, pos, H.out, rfl⟩, Fr.refl _ _⟩

set_option maxRecDepth 100000 in
set_option maxHeartbeats 2000000 in
theorem back_yes (base b : Nat) (w : World) (fp : List Nat) (s : S) (mark : Nat) (h : IsSet w base b fp s) (hgood : W.Good s) (hm : mark ≤ s.done.length) (hdn : s.done.length ≤ 1000000) :
    Calls Try.prog 44 #[.pointer (some ⟨b, 0, none⟩), .int .i64 mark] w (BackPost w base b fp s mark) := by
  have hb : back s mark = (undoTo mark s.done.length s, true) := by
    have h1 : ¬ ((mark : Int) < 0 ∨ (s.done.length : Int) < (mark : Int)) := by omega
    simp only [back, if_neg h1, Int.toNat_natCast]
  unfold BackPost
  rw [hb]
  obtain ⟨vl, vt, vd, m, tab, pos, h, rfl⟩ := h
  obtain ⟨la, lc, rfl⟩ := ownsRow_any h.rlist
  obtain ⟨da, dc, rfl⟩ := ownsRow_any h.rdone
  obtain ⟨bt, c, rfl, hbt, hb2, hmc, hcm⟩ := h.vt_form
  unfold maxLen at hcm
  have hm1 := h.ok.bound
  have h3 := h.blk.cell 3
  simp only [List.getElem?_cons_succ, List.getElem?_cons_zero] at h3
  rw [fp_len]
  have HI : Hid (BackRel w base b la lc bt c da dc m pos mark (undoTo mark s.done.length s) s.done.length w) :=
    ⟨tab, s, h, hgood, hm, rfl, rfl, hdn, Fr.refl _ _⟩
  have hd1 : decide ((mark : Int) < 0) = false := by simp
  have hd2 : decide (s.done.length < mark) = false := by simp; omega
  generalize hfin : undoTo mark s.done.length s = fin at *
  clear hfin h hgood hb hbt hb2
  go_enter Try.func44, Try.ntmps44
  go_wp2_with fail
  clear h3
  go_loopg [] s.done.length (fun g wr => BackRel w base b la lc bt c da dc m pos mark fin g wr)
  case atStart => exact HI.out
  case round =>
    clear HI
    obtain ⟨tab, s, h, hgood, hm, hfin, hg, hdn, hfr⟩ := hrel
    have h0 := h.blk.cell 0
    have h1 := h.blk.cell 1
    have h2 := h.blk.cell 2
    have h3 := h.blk.cell 3
    have f1 := h.blk.froz 1
    have f3 := h.blk.froz 3
    simp only [List.getElem?_cons_succ, List.getElem?_cons_zero] at h0 h1 h2 h3
    by_cases hlt : mark < s.done.length
    · obtain ⟨dr, x, hd⟩ := done_last (show 0 < s.done.length by omega)
      have hn : s.done.length = dr.length + 1 := by rw [hd]; simp
      obtain ⟨gd, rfl⟩ : ∃ gd, da = some ⟨gd, 0, none⟩ := by
        rcases ownsRow_form h.rdone with ⟨_, h0⟩ | ⟨g, c, e, _⟩
        · omega
        · simp only [Value.slice.injEq] at e; exact ⟨g, e.1⟩
      have hnc : dr.length + 1 ≤ dc ∧ dc ≤ 9223372036854775807 := by
        rcases ownsRow_form h.rdone with ⟨_, h0⟩ | ⟨g, c, e, _, _, e1, e2⟩
        · omega
        · simp only [Value.slice.injEq] at e; unfold maxLen at e2; omega
      obtain ⟨hval, hgood2⟩ := good_step hgood hd
      have hstep := undoTo_step hd mark (by omega)
      have hgx : s.done[dr.length]'(by omega) = x := by simp [hd]
      have hc0 := ownsRow_cell h.rdone _ _ (chs_get s.done dr.length (by omega)).1
      have hc1 := ownsRow_cell h.rdone _ _ (chs_get s.done dr.length (by omega)).2.1
      have hc2 := ownsRow_cell h.rdone _ _ (chs_get s.done dr.length (by omega)).2.2
      rw [hgx] at hc0 hc1 hc2
      obtain ⟨k, hk, hkl⟩ := hval
      obtain ⟨x0, was, fresh⟩ := x
      dsimp only at hk hkl hc0 hc1 hc2
      subst hk
      rw [hn] at h3 h
      have HN := Lib.hid hn; have HD := Lib.hid hd; have HF := Lib.hid hfr; have HG2 := Lib.hid hgood2; have HST := Lib.hid hstep; have HFIN := Lib.hid hfin; have HG := Lib.hid hg
      clear hgx hd hfr hgood hgood2 hstep hfin hg hn
      generalize hnd : dr.length = n at *
      have HND := Lib.hid hnd
      clear hnd
      have HNN : Hid (s.done.length = n + 1) := HN.out
      have hb3 := h.blk.lt
      have hbx := World.new_ne wr ⟨b, 1, none⟩ h1
      have HPD := Lib.hid (h.popd HNN.out HD.out)
      have HS := Lib.hid h
      clear h
      have hltm : mark < n + 1 := by have := HNN.out; omega
      go_wp2_with fail
      refine wp_region_fr [(1, [0, 1, 2, 3, 4, 5, 6, 7, 8, 9, 10, 11]), (2, [12]), (3, [13])] [] (by kernel_rfl) (by kernel_rfl) ?_
      simp only [theOps, nthOp, List.map_cons, List.map_nil, Array.getD_eq_getD_getElem?, List.getElem?_toArray, List.getElem?_cons_succ, List.getElem?_cons_zero, Option.getD_some]
      repeat ((first | refine wpSegs_soft ?_ | refine wpSegs_pure ?_ | refine wpSegs_here ?_); (repeat (first | go_big_quiet_step (fail) | quiet_step (fail))); refine wpQuiet_nil ?_)
      refine wpSegs_keep ?_
      go_wp2_with fail
      refine ⟨⟨⟨_, (by exact (Fr.refl _ _).alloc _)⟩, rfl⟩, ?_⟩
      refine wpSegs_hard ?_
      go_wp2_with fail
      refine wpSegs_done ?_
      go_wp2_with fail
      refine wp_region_fr [(1, [0, 1, 2, 3, 4, 5, 6, 7, 8, 9, 10, 11, 12, 13]), (3, [14])] [] (by kernel_rfl) (by kernel_rfl) ?_
      simp only [theOps, nthOp, List.map_cons, List.map_nil, Array.getD_eq_getD_getElem?, List.getElem?_toArray, List.getElem?_cons_succ, List.getElem?_cons_zero, Option.getD_some]
      repeat ((first | refine wpSegs_soft ?_ | refine wpSegs_pure ?_ | refine wpSegs_here ?_); (repeat (first | go_big_quiet_step (fail) | quiet_step (fail))); refine wpQuiet_nil ?_)
      refine wpSegs_hard ?_
      go_wp2_with fail
      refine wpSegs_done ?_
      cases fresh
      · have hkl' : k < s.list.length := by simpa using hkl
        clear hkl
        obtain ⟨bl, rfl⟩ : ∃ bl, la = some ⟨bl, 0, none⟩ := by
          rcases ownsRow_form HS.out.rlist with ⟨_, h0⟩ | ⟨g, c, e, _⟩
          · omega
          · simp only [Value.slice.injEq] at e; exact ⟨g, e.1⟩
        have hl1 := (HS.out.list_cell hkl').2
        have fl1 := ownsRow_froz HS.out.rlist (k * 2 + 1)
        have hlb := World.block_lt_of_cell? wr ⟨bl, k * 2 + 1, none⟩ hl1
        have hbl2 : wr.heap.size ≠ bl := World.new_ne wr ⟨bl, k * 2 + 1, none⟩ hl1
        have hblb : b ≠ bl := fun e => HS.out.bl (by simp [Value.ownBlock, e])
        have hll : s.list.length ≤ 65536 := Nat.le_trans HS.out.few HS.out.room
        go_wp2_with fail
        refine wp_region_fr [(1, [0, 1, 2, 3, 4, 5, 6, 7, 8, 9]), (3, [10])] [] (by kernel_rfl) (by kernel_rfl) ?_
        simp only [theOps, nthOp, List.map_cons, List.map_nil, Array.getD_eq_getD_getElem?, List.getElem?_toArray, List.getElem?_cons_succ, List.getElem?_cons_zero, Option.getD_some]
        repeat ((first | refine wpSegs_soft ?_ | refine wpSegs_pure ?_ | refine wpSegs_here ?_); (repeat (first | go_big_quiet_step (fail) | quiet_step (fail))); refine wpQuiet_nil ?_)
        refine wpSegs_hard ?_
        go_wp2_with fail
        refine wpSegs_done ?_
        go_wp2_with fail
        go_roundg n
        case measure => have := HG.out; have := HNN.out; omega
        case rel =>
          have hS := SetAt.setVal (s := { s with done := dr }) HPD.out k was
          have hu : undo s.list ((k : Int), was, false) = s.list.set k ((s.list.getD k (0, 0)).1, was) := by simp [undo]
          rw [← hu] at hS
          have hul : (undo s.list ((k : Int), was, false)).length = s.list.length := by rw [hu]; simp
          refine ⟨tab, { s with list := undo s.list ((k : Int), was, false), done := dr }, ?_, HG2.out, by rw [HND.out]; omega, ?_, HND.out.symm, by rw [HND.out]; have := HNN.out; omega, ?_⟩
          · show SetAt _ _ _ (.slice _ (undo s.list ((k : Int), was, false)).length lc) _ (.slice _ dr.length dc) _ _ _ _
            rw [hul, HND.out]
            refine hS.fr (fp := []) ?_ (fun _ _ => by simp)
            repeat (first | exact Fr.refl _ _ | refine Fr.drew ?_ | refine Fr.drewN ?_ _ | refine Fr.alloc ?_ _)
          · rw [HND.out, ← HST.out]; exact HFIN.out
          · refine HF.out.trans ?_
            repeat (first | exact Fr.refl _ _ | refine Fr.drew ?_ | refine Fr.drewN ?_ _ | refine Fr.alloc ?_ _ | refine Fr.setCell ?_ (.inl (by rw [mem_fpOf]; simp [Value.ownBlock])) _)
      · have hkk : s.list.length = k + 1 := by simp at hkl; omega
        clear hkl
        obtain ⟨bl, rfl⟩ : ∃ bl, la = some ⟨bl, 0, none⟩ := by
          rcases ownsRow_form HS.out.rlist with ⟨_, h0⟩ | ⟨g, c, e, _⟩
          · omega
          · simp only [Value.slice.injEq] at e; exact ⟨g, e.1⟩
        have hks : k < s.list.length := by omega
        have hl1 := (HS.out.list_cell hks).1
        have hlcc : k + 1 ≤ lc ∧ lc ≤ 9223372036854775807 := by
          rcases ownsRow_form HS.out.rlist with ⟨_, h0⟩ | ⟨g, c, e, _, _, e1, e2⟩
          · omega
          · simp only [Value.slice.injEq] at e; unfold maxLen at e2; omega
        have hblb : b ≠ bl := fun e => HS.out.bl (by simp [Value.ownBlock, e])
        have hblb' : bl ≠ b := Ne.symm hblb
        have hlb : bl < wr.heap.size := World.block_lt_of_cell? wr ⟨bl, k * 2, none⟩ hl1
        have hbl2 : wr.heap.size ≠ bl := World.new_ne wr ⟨bl, k * 2, none⟩ hl1
        have hll : k + 1 ≤ 65536 := by have := HS.out.few; have := HS.out.room; omega
        have hpk : pos k < m := HS.out.ok.lt k hks
        have htk := HS.out.tab_cell (HS.out.ok.at_ k hks)
        have ftk := ownsRow_froz HS.out.rtab (pos k)
        have hbtb : b ≠ bt := fun e => HS.out.bt (by simp [Value.ownBlock, e])
        have hbtb' : bt ≠ b := Ne.symm hbtb
        have hbtl : bt < wr.heap.size := World.block_lt_of_cell? wr ⟨bt, pos k, none⟩ htk
        have hbt2 : wr.heap.size ≠ bt := World.new_ne wr ⟨bt, pos k, none⟩ htk
        generalize hat : s.list[k].1 = at_ at *
        have HAT := Lib.hid hat; clear hat
        have HIX : Hid (idx s.list at_ = some k) := idx_of HS.out.ok.distinct hks HAT.out
        rw [hkk] at h1
        have HKK := Lib.hid hkk; clear hkk
        go_wp2_with fail
        refine wp_region_fr [(1, [0, 1, 2, 3, 4, 5, 6, 7, 8, 9, 10, 11, 12, 13]), (2, [14]), (0, [15]), (3, [16])] [] (by kernel_rfl) (by kernel_rfl) ?_
        simp only [theOps, nthOp, List.map_cons, List.map_nil, Array.getD_eq_getD_getElem?, List.getElem?_toArray, List.getElem?_cons_succ, List.getElem?_cons_zero, Option.getD_some]
        repeat ((first | refine wpSegs_soft ?_ | refine wpSegs_pure ?_ | refine wpSegs_here ?_); (repeat (first | go_big_quiet_step (fail) | quiet_step (fail))); refine wpQuiet_nil ?_)
        refine wpSegs_keep ?_
        go_wp2_with fail
        refine (slot_any base b at_ _ _ _ _ m tab pos _ (HPD.out.fr (fp := []) ?fr0 (fun _ _ => by simp))).mono ?_
        case fr0 => (repeat (first | exact Fr.refl _ _ | refine Fr.drew ?_ | refine Fr.drewN ?_ _ | refine Fr.alloc ?_ _))
        rintro e w' ⟨k2, q, rfl, hS, rfl⟩
        obtain ⟨_, ⟨i', hx', hp, _, _⟩ | ⟨hx', _⟩⟩ := hS
        rotate_left
        · rw [HIX.out] at hx'; cases hx'
        rw [HIX.out] at hx'
        injection hx' with hii
        subst hii
        subst hp
        go_wp2_with fail
        refine ⟨⟨⟨_, (by exact ⟨rfl, rfl, rfl, Nat.le_refl _, fun _ _ _ => rfl⟩)⟩, rfl⟩, ?_⟩
        repeat ((first | refine wpSegs_soft ?_ | refine wpSegs_pure ?_ | refine wpSegs_here ?_); (repeat (first | go_big_quiet_step (fail) | quiet_step (fail))); refine wpQuiet_nil ?_)
        refine wpSegs_hard ?_
        go_wp2_with fail
        refine wpSegs_done ?_
        go_wp2_with fail
        refine wp_region_fr [(1, [0, 1, 2, 3, 4, 5, 6, 7, 8, 9]), (3, [10])] [] (by kernel_rfl) (by kernel_rfl) ?_
        simp only [theOps, nthOp, List.map_cons, List.map_nil, Array.getD_eq_getD_getElem?, List.getElem?_toArray, List.getElem?_cons_succ, List.getElem?_cons_zero, Option.getD_some]
        repeat ((first | refine wpSegs_soft ?_ | refine wpSegs_pure ?_ | refine wpSegs_here ?_); (repeat (first | go_big_quiet_step (fail) | quiet_step (fail))); refine wpQuiet_nil ?_)
        refine wpSegs_hard ?_
        go_wp2_with fail
        refine wpSegs_done ?_
        go_wp2_with fail
        go_roundg n
        case measure => have := HG.out; have := HNN.out; omega
        case rel =>
          have h1' := HPD.out
          rw [HKK.out] at h1'
          have hX := h1'.fr (fp := []) (((Fr.refl [] _).alloc (.cells #[.int .i64 k, .int .u64 was, .bool true] 174)).drewN (1 + (1 + (1 + q)))) (fun _ _ => by simp)
          have hS := SetAt.popl (s := { s with done := dr }) hX HKK.out (Fr.refl [] _)
          have hu : undo s.list ((k : Int), was, true) = s.list.take k := by simp [undo]
          have hul : (undo s.list ((k : Int), was, true)).length = k := by rw [hu]; simp [HKK.out]
          refine ⟨tab.set (pos k) 0, { s with list := undo s.list ((k : Int), was, true), done := dr }, ?_, HG2.out, by rw [HND.out]; omega, ?_, HND.out.symm, by rw [HND.out]; have := HNN.out; omega, ?_⟩
          · show SetAt _ _ _ (.slice _ (undo s.list ((k : Int), was, true)).length lc) _ (.slice _ dr.length dc) _ _ _ _
            rw [hul, HND.out, hu]
            exact hS.fr (fp := []) ((Fr.refl [] _).drew) (fun _ _ => by simp)
          · rw [HND.out, ← HST.out]; exact HFIN.out
          · refine HF.out.trans ?_
            repeat (first | exact Fr.refl _ _ | refine Fr.drew ?_ | refine Fr.drewN ?_ _ | refine Fr.alloc ?_ _ | refine Fr.setCell ?_ (.inl (by rw [mem_fpOf]; simp [Value.ownBlock])) _)
    · go_wp2_with fail
      go_ret
      have : undoTo mark s.done.length s = s := undoTo_done _ (by omega)
      rw [this] at hfin
      subst hfin
      exact ⟨rfl, ⟨_, _, _, m, tab, pos, h, (fp_len _ _ _ _ _ _ _ _).symm⟩, hfr⟩

theorem back_any (base b : Nat) (w : World) (fp : List Nat) (s : S) (mark : Int) (h : IsSet w base b fp s) (hgood : W.Good s) (hdn : s.done.length ≤ 1000000) :
    Calls Try.prog 44 #[.pointer (some ⟨b, 0, none⟩), .int .i64 mark] w (BackPost w base b fp s mark) := by
  by_cases hm : mark < 0 ∨ (s.done.length : Int) < mark
  · exact back_no base b w fp s mark h hm
  · obtain ⟨k, rfl⟩ : ∃ k : Nat, mark = k := ⟨mark.toNat, by omega⟩
    exact back_yes base b w fp s k h hgood (by omega) hdn
end Go.Proofs.Ytccioehckfdjdaa
