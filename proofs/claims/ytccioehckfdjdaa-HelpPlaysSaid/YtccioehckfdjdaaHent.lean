/- The walk of help's entry: the first entry from a place on that is a cell's that transactions write. -/
import Derived.Test.YtccioehckfdjdaaHw
import Derived.Test.YtccioehckfdjdaaHmatch
import Derived.Deep.LoopGhost
set_option linter.unusedSimpArgs false
set_option linter.unusedVariables false
namespace Go.Proofs.Ytccioehckfdjdaa
open Go.RowKit Go.Tum Go.Tum.Y Go.Tum.Sc
set_option maxRecDepth 100000 in
set_option maxHeartbeats 8000000 in
theorem hentry_any {w0 w : World} {R : List Thing} (b : Nat) (c : Cfg) (hok : Ok c) (who owner seq : Int) (la : Option Addr) (m lc : Nat) (h : H.H) (k : Nat) (hm : m = h.list.length) (hml : m ≤ 100000) (hk : k ≤ m)
    (hS : Sep w0 w (blkT b 181 (H.hL (mapCells c) who owner seq (.slice la m lc) h) :: rowT 0 136 2 (.slice la m lc) m (flat enE h.list) :: R)) :
    Calls Try.prog 116 #[.pointer (some ⟨b, 0, none⟩), .int .i64 (k : Int)] w fun e w' => e = .returned (.tuple #[]) ∧ Sep w0 w' (blkT b 181 (H.hL (mapCells c) who owner seq (.slice la m lc) (H.entry c h k)) :: rowT 0 136 2 (.slice la m lc) m (flat enE h.list) :: R) := by
  subst hm
  have HWH := Lib.hid (fun p => what_all hok p)
  unfold Tells at HWH
  have hsz : (mapCells c).length = 24 := rfl
  unfold mapV at HWH
  generalize mapCells c = cs at *
  have hmi : (h.list.length : Int) ≤ 100000 := by omega
  have hki : (k : Int) ≤ (h.list.length : Int) := by omega
  have HS := Lib.hid hS; clear hS
  go_enter Try.func116, Try.ntmps116
  go_wp2_with fail
  go_loopg [1] (h.list.length - k) (fun g vk wr => ∃ j : Nat, g + j = h.list.length ∧ k ≤ j ∧ vk = .int .i64 (j : Int) ∧ H.entry c h k = H.entry c h j ∧ Sep w0 wr (blkT b 181 (H.hL cs who owner seq (.slice la h.list.length lc) h) :: rowT 0 136 2 (.slice la h.list.length lc) h.list.length (flat enE h.list) :: R))
  case atStart => exact ⟨k, by omega, Nat.le_refl _, rfl, rfl, HS.out⟩
  case round =>
    clear HS
    obtain ⟨j, hg, hkj, rfl, heq, hS⟩ := hrel
    have HS := Lib.hid hS; clear hS
    by_cases hj : j < h.list.length
    · have hji : (j : Int) < (h.list.length : Int) := by omega
      have hjl : j < h.list.length := by omega
      have hr := HS.out.row 1 rfl
      obtain ⟨g0, hla⟩ : ∃ g, la = some ⟨g, 0, none⟩ := by
        rcases ownsRow_form hr with ⟨_, e⟩ | ⟨g, cap, e, _⟩
        · omega
        · simp only [Value.slice.injEq] at e; exact ⟨g, e.1⟩
      subst hla
      have y0 := ownsRow_cell hr (j * 2) _ (by have := flat_get enE_len h.list j hjl 0 (by decide); simpa [enE] using this)
      have y1 := ownsRow_cell hr (j * 2 + 1) _ (by have := flat_get enE_len h.list j hjl 1 (by decide); simpa [enE] using this)
      have hec := H.entry_cons (c := c) h j hjl
      have hnth : H.nth h j = h.list[j]'hjl := by simp [H.nth, List.getD_eq_getElem?_getD, List.getElem?_eq_getElem hjl]
      rw [hnth] at hec
      clear hnth hr
      generalize h.list[j]'hjl = E at *
      obtain ⟨E1, E2⟩ := E
      dsimp only at y0 y1 hec
      have HW := Lib.hid (HWH.out E1)
      have hwb := whA_bd2 hok E1
      have hwd := whA_bd hok E1
      generalize whA c E1 = wa at HW hwb hec hwd
      obtain ⟨wa1, wa2, wa3⟩ := wa
      dsimp only at HW hwb hec hwd
      have la := 0
      obtain ⟨la, hla⟩ : ∃ la : Option Addr, la = some ⟨g0, 0, none⟩ := ⟨_, rfl⟩
      rw [← hla] at HS
      have k27 := ((HS.out.blk 0 rfl).cell 27).trans (H.hL_at hsz who owner seq (.slice la h.list.length lc) h).2.2.2.1
      have k29 := ((HS.out.blk 0 rfl).cell 29).trans (H.hL_at hsz who owner seq (.slice la h.list.length lc) h).2.2.2.2.2.1
      have k30 := ((HS.out.blk 0 rfl).cell 30).trans (H.hL_at hsz who owner seq (.slice la h.list.length lc) h).2.2.2.2.2.2.1
      have k33 := ((HS.out.blk 0 rfl).cell 33).trans (H.hL_at hsz who owner seq (.slice la h.list.length lc) h).2.2.2.2.2.2.2.2.2
      have f29 := (HS.out.blk 0 rfl).froz 29
      have f33 := (HS.out.blk 0 rfl).froz 33
      have kl := (HS.out.blk 0 rfl).lt
      rw [hla] at k27
      have hB := HS.out.blk 0 rfl
      have hmd := hB.drew
      clear hB
      have hbg : b ≠ g0 → True := fun _ => trivial
      go_wp2_with fail
      refine wp_region_fr [(1, [0, 1, 2, 3, 4, 5, 6, 7, 8, 9, 10, 11]), (3, [12]), (0, [13, 14, 15, 16, 17, 18, 19])] [] (by kernel_rfl) (by kernel_rfl) ?_
      simp only [theOps, nthOp, List.map_cons, List.map_nil, Array.getD_eq_getD_getElem?, List.getElem?_toArray, List.getElem?_cons_succ, List.getElem?_cons_zero, Option.getD_some]
      refine wpSegs_soft ?_
      iterate 3 (first | go_big_quiet_step (fail) | quiet_step (fail))
      refine wpQuiet_load_mid 31 _ b 0 cs _ rfl rfl rfl (rangeAt_pre hmd (by simp)) Try.underlying31 rfl (by rw [hsz]; kernel_rfl) ?_
      simp only [Act.put, List.setIfInBounds_toArray, List.set_cons_zero, List.set_cons_succ]
      repeat (first | go_big_quiet_step (fail) | quiet_step (fail))
      refine wpQuiet_nil ?_
      refine wpSegs_hard ?_
      go_wp2_with fail
      refine (HW.out _).mono ?_
      rintro e w2 ⟨rfl, hf⟩
      have HS := Lib.hid (HS.out.drew.fr0 hf)
      clear hf
      go_wp2_with fail
      repeat ((first | refine wpSegs_soft ?_ | refine wpSegs_pure ?_ | refine wpSegs_here ?_); (repeat (first | go_big_quiet_step (fail) | quiet_step (fail))); refine wpQuiet_nil ?_)
      refine wpSegs_done ?_
      clear k27 k29 k30 k33 f29 f33 kl y0 y1 hmd
      have k27 := ((HS.out.blk 0 rfl).cell 27).trans (H.hL_at hsz who owner seq (.slice la h.list.length lc) h).2.2.2.1
      have k29 := ((HS.out.blk 0 rfl).cell 29).trans (H.hL_at hsz who owner seq (.slice la h.list.length lc) h).2.2.2.2.2.1
      have k30 := ((HS.out.blk 0 rfl).cell 30).trans (H.hL_at hsz who owner seq (.slice la h.list.length lc) h).2.2.2.2.2.2.1
      have k33 := ((HS.out.blk 0 rfl).cell 33).trans (H.hL_at hsz who owner seq (.slice la h.list.length lc) h).2.2.2.2.2.2.2.2.2
      have f29 := (HS.out.blk 0 rfl).froz 29
      have f33 := (HS.out.blk 0 rfl).froz 33
      have kl := (HS.out.blk 0 rfl).lt
      rw [hla] at k27
      by_cases h7 : wa1 < 7
      · rw [if_pos h7] at hec
        have g7 : decide (wa1 < 7) = true := by simpa using h7
        go_wp2_with fail
        go_roundg (h.list.length - (j + 1))
        case measure => omega
        case rel =>
          refine ⟨j + 1, by omega, by omega, by go_num, heq.trans hec, ?_⟩
          have := HS.out
          rw [hla] at this
          exact this
      · rw [if_neg h7] at hec
        have g7 : decide (wa1 < 7) = false := by simpa using h7
        have hS5 := (HS.out.set 0 rfl 29 (.int .i64 (j : Int))).set 0 rfl 33 (.int .i64 5)
        simp only [List.set_cons_zero, H.hL_k hsz, H.hL_next hsz] at hS5
        have hS3 := hS5.set 0 rfl 33 (.int .i64 3)
        simp only [List.set_cons_zero, H.hL_next hsz] at hS3
        have HS5 := Lib.hid hS5; have HS3 := Lib.hid hS3
        clear hS5 hS3
        by_cases h16 : wa1 = 16
        · have g16 : (wa1 == 16) = true := by simpa using h16
          by_cases hhd : wa2 = h.held
          · have gh : (wa2 != h.held) = false := by simpa using hhd
            rw [if_neg (by simp [hhd])] at hec
            clear h16 hhd
            go_wp2_with fail
            refine bodyPost_ret (v := .tuple #[]) (by simp [results, Try.results116, go_sem]) rfl ?_
            refine ⟨rfl, ?_⟩
            first | exact HS5.out | (have h9 := HS5.out; rw [hla] at h9; exact h9) | (rw [heq, hec]; have h9 := HS5.out; rw [hla] at h9; exact h9)
          · have gh : (wa2 != h.held) = true := by simpa using hhd
            rw [if_pos ⟨h16, hhd⟩] at hec
            clear h16 hhd
            go_wp2_with fail
            refine bodyPost_ret (v := .tuple #[]) (by simp [results, Try.results116, go_sem]) rfl ?_
            refine ⟨rfl, ?_⟩
            first | exact HS3.out | (have h9 := HS3.out; rw [hla] at h9; exact h9) | (rw [heq, hec]; have h9 := HS3.out; rw [hla] at h9; exact h9)
        · have g16 : (wa1 == 16) = false := by simpa using h16
          rw [if_neg (by simp [h16])] at hec
          clear h16
          go_wp2_with fail
          refine bodyPost_ret (v := .tuple #[]) (by simp [results, Try.results116, go_sem]) rfl ?_
          refine ⟨rfl, ?_⟩
          first | exact HS5.out | (have h9 := HS5.out; rw [hla] at h9; exact h9) | (rw [heq, hec]; have h9 := HS5.out; rw [hla] at h9; exact h9)
    · obtain rfl : j = h.list.length := by omega
      have hec := H.entryG_nil (c := c) h h.list.length (by omega)
      have k27 := ((HS.out.blk 0 rfl).cell 27).trans (H.hL_at hsz who owner seq (.slice la h.list.length lc) h).2.2.2.1
      have k33 := ((HS.out.blk 0 rfl).cell 33).trans (H.hL_at hsz who owner seq (.slice la h.list.length lc) h).2.2.2.2.2.2.2.2.2
      have f33 := (HS.out.blk 0 rfl).froz 33
      have kl := (HS.out.blk 0 rfl).lt
      have hS7 := HS.out.set 0 rfl 33 (.int .i64 7)
      simp only [List.set_cons_zero, H.hL_next hsz] at hS7
      have HS7 := Lib.hid hS7; clear hS7
      go_wp2_with fail
      go_end0
      refine ⟨rfl, ?_⟩
      first | exact HS7.out | (rw [heq, hec]; exact HS7.out)
end Go.Proofs.Ytccioehckfdjdaa
