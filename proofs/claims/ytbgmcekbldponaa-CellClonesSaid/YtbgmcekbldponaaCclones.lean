/- The walk of CellClones. -/
import Derived.Test.YtbgmcekbldponaaCtrace
set_option linter.unusedSimpArgs false
set_option linter.unusedVariables false
namespace Go.Tum.C
open Go.Tum
theorem step_prefix (m : M) (who : Int) (op : Op6) : m.trace <+: (m.step who op).trace := by
  unfold M.step; split
  · exact List.prefix_append _ _
  · exact List.prefix_refl _
end Go.Tum.C
namespace Go.Proofs.Ytbgmcekbldponaa
open Go.RowKit Go.Tum Go.Tum.C
theorem put_trace (m : M) (a : Int) (c : Int × Int) : (M.put m a c).trace = m.trace := by unfold M.put; split <;> rfl
theorem put_cells (m : M) (a : Int) (c : Int × Int) : (M.put m a c).cells.length = m.cells.length := by unfold M.put; split <;> simp
/-- A step, and the cell set behind it. -/
def both (m : M) (s : St) : M := M.put (m.step s.1 s.2) s.2.a (s.2.nv, s.2.ns)
def boths (m : M) (l : List St) : M := l.foldl both m
theorem boths_succ (m : M) (l : List St) {k : Nat} (hk : k < l.length) : boths m (l.take (k + 1)) = both (boths m (l.take k)) l[k] := by
  unfold boths
  rw [← List.take_append_getElem hk, List.foldl_append]; rfl
theorem boths_prefix (l : List St) : ∀ m, m.trace <+: (boths m l).trace ∧ (boths m l).trace.length ≤ m.trace.length + l.length := by
  induction l with
  | nil => intro m; exact ⟨List.prefix_refl _, Nat.le_refl _⟩
  | cons s r ih =>
    intro m
    obtain ⟨h1, h2⟩ := ih (both m s)
    have h3 : m.trace <+: (both m s).trace := by unfold both; rw [put_trace]; exact step_prefix _ _ _
    have h4 : (both m s).trace.length ≤ m.trace.length + 1 := by unfold both; rw [put_trace]; exact step_trace _ _ _
    refine ⟨h3.trans h1, ?_⟩
    show (boths (both m s) r).trace.length ≤ _
    rw [List.length_cons]; omega
set_option maxHeartbeats 8000000 in
set_option maxRecDepth 100000 in
theorem clones_law (size : Int) (va vb : Value) (LA LB : List St) (w : World) (ha : ArgE enSt 7 w va LA) (hb : ArgE enSt 7 w vb LB) (hLA : LA.length ≤ maxLen) (hLB : LB.length ≤ maxLen) :
    Calls Try.prog 7 #[.int .i64 size, va, vb] w fun e w' => e = .returned (.bool true) ∧ Fr [] w w' := by
  obtain ⟨r, hr, er⟩ : ∃ r : Nat, r < 32 ∧ bits .and .i64 size 31 = (r : Int) := and_i64_low size 5 (by decide)
  obtain ⟨la, lc, rfl⟩ := ha.len
  obtain ⟨lb, lcb, rfl⟩ := hb.len
  have HA := Lib.hid ha; have HB := Lib.hid hb; have HE := Lib.hid er
  clear ha hb er
  by_cases h60 : 60 < LA.length
  · have h1i : decide ((60 : Int) < (LA.length : Int)) = true := by simp; omega
    go_enter Try.func7, Try.ntmps7
    go_wp2_with fail
    refine (alive_any _).mono ?_
    rintro e w1 ⟨rfl, hf⟩
    have HF := Lib.hid hf
    clear hf
    go_wp2_with fail
    go_ret
    exact ⟨rfl, HF.out⟩
  have h1i : decide ((LA.length : Int) > (60 : Int)) = false := by simp; omega
  have h1j : (LA.length : Int) ≤ 60 := by omega
  by_cases h61 : 60 < LB.length
  · have h2i : decide ((LB.length : Int) > (60 : Int)) = true := by simp; omega
    go_enter Try.func7, Try.ntmps7
    go_wp2_with fail
    refine (alive_any _).mono ?_
    rintro e w1 ⟨rfl, hf⟩
    have HF := Lib.hid hf
    clear hf
    go_wp2_with fail
    go_ret
    exact ⟨rfl, HF.out⟩
  have h2i : decide ((LB.length : Int) > (60 : Int)) = false := by simp; omega
  have h2j : (LB.length : Int) ≤ 60 := by omega
  go_enter Try.func7, Try.ntmps7
  go_wp2_with fail
  refine (alive_any _).mono ?_
  rintro e w1 ⟨rfl, hf⟩
  have HF := Lib.hid hf
  have HE2 := HE.out
  clear hf
  go_wp2_with fail
  clear HE2
  have hn : r + 1 ≤ 65536 := by omega
  rw [show (1 : Int) + (r : Int) = ((r + 1 : Nat) : Int) from by omega]
  refine (new_any w1 (r + 1) hn).mono ?_
  rintro e w2 ⟨b, rfl, hF⟩
  have HN := Lib.hid ((Sep.nil HF.out).fresh hF)
  clear hF HF
  generalize hq : r + 1 = q at *
  have HQ := Lib.hid hq; clear hq
  obtain ⟨M0, hM0⟩ : ∃ M, newM q = M := ⟨_, rfl⟩
  have hM0t : M0.trace = [] := by rw [← hM0]; rfl
  have hM0g : C.Good M0 := by rw [← hM0]; exact good_new q
  have hM0c : M0.cells.length = q := by rw [← hM0]; simp [newM]
  rw [hM0] at HN
  have HMG := Lib.hid hM0g; have HMC := Lib.hid hM0c
  have hM0l : M0.trace.length = 0 := by rw [hM0t]; rfl
  clear hM0 hM0t hM0g hM0c
  go_wp2_with fail
  go_loopg [44] LA.length (fun g vi wr => ∃ k, g + k = LA.length ∧ vi = .int .i64 (k : Int) ∧ Sep w wr [memT b (run M0 (LA.take k))])
  case atStart => exact ⟨0, by omega, rfl, HN.out⟩
  case round =>
    clear HN
    obtain ⟨k, hg, rfl, hS⟩ := hrel
    by_cases hk : k < LA.length
    · have hki : (k : Int) < (LA.length : Int) := by omega
      obtain ⟨x, rfl, hx, c0, c1⟩ := (HA.out.fr hS.fr).at hk
      have hrt := run_trace (LA.take k) M0
      rw [List.length_take] at hrt
      have hrs := run_succ M0 LA hk
      generalize LA[k] = s at *
      obtain ⟨s0, s1, s2, s3, s4, s5, s6⟩ := s
      have d0 := c0 _ rfl
      have d1 := c1 0 _ rfl
      have d2 := c1 1 _ rfl
      have d3 := c1 2 _ rfl
      have d4 := c1 3 _ rfl
      have d5 := c1 4 _ rfl
      have d6 := c1 5 _ rfl
      clear c0 c1
      have HS := Lib.hid (hS.new 39 (enSt (s0, ⟨s1, s2, s3, s4, s5, s6⟩)))
      have HRS := Lib.hid hrs
      have hrt2 : (run M0 (LA.take k)).trace.length ≤ 100000 := by omega
      clear hS hrs hrt
      go_wp2_with fail
      refine ((HS.out.call 1 rfl (fun R hR => do_any hR hrt2 s0 ⟨s1, s2, s3, s4, s5, s6⟩))).mono ?_
      rintro e w5 ⟨rfl, hS⟩
      have HS2 := Lib.hid hS.tail
      clear hS HS
      go_wp2_with fail
      go_roundg (LA.length - (k + 1))
      case measure => omega
      case rel => exact ⟨k + 1, by omega, rfl, by rw [HRS.out]; exact HS2.out⟩
    · obtain rfl : k = LA.length := by omega
      rw [List.take_of_length_le (by omega)] at hS
      have hrt := run_trace LA M0
      have hrc := run_cells LA M0
      rw [HMC.out] at hrc
      rw [hM0l] at hrt
      obtain ⟨MF, hMF⟩ : ∃ M, run M0 LA = M := ⟨_, rfl⟩
      rw [hMF] at hS hrt hrc
      have HS := Lib.hid hS; have HRC := Lib.hid hrc
      have hti : (MF.trace.length : Int) ≤ 60 := by omega
      clear hS hrt hrc hMF HMG HMC hM0l
      generalize gk = G at *
      go_wp2_with fail
      obtain ⟨_, vc, vt, hM⟩ := sep_mem HS.out 0 rfl
      refine (lawevents_any _ b vc vt _ 1000 hM (by omega)).mono ?_
      rintro e w5 ⟨vl, rfl, hF⟩
      unfold EvRow at hF
      rw [List.take_of_length_le (show MF.trace.length ≤ Int.toNat 1000 by show _ ≤ 1000; omega)] at hF
      obtain ⟨el, ec, rfl⟩ := hF.form
      have HV := Lib.hid (HS.out.fresh hF)
      clear hM hF HS
      go_wp2_with fail
      obtain ⟨hG, vc, vt, hM⟩ := sep_mem HV.out 1 rfl
      refine (copy_any _ b vc vt _ hM hG (by omega)).mono ?_
      rintro e w6 ⟨b', rfl, hF⟩
      have hS := HV.out.fresh hF
      have hS := hS.fresh (T := rowT 0 35 2 (.slice (some ⟨w6.heap.size, 0, none⟩) 0 0) 0 []) (w' := w6.alloc (.cells #[] 35)) ⟨(Fr.refl [] w6).alloc _, [w6.heap.size], ⟨rfl, World.ownsRow_made w6 #[] 0 (Nat.zero_le _) (by unfold maxLen; omega) (by simp)⟩, by simp⟩
      have HS := Lib.hid (show Sep w _ [rowT 0 35 2 (.slice (some ⟨w6.heap.size, 0, none⟩) 0 0) 0 (flat enC (MF.cells.take 0)), memT b' MF, rowT 0 57 10 (.slice el MF.trace.length ec) MF.trace.length (flat enEv MF.trace), memT b MF] from hS)
      clear hM hF HV hG hS
      obtain ⟨i0, hi0, hz0, hz1, hz2⟩ := info_parts C_infoCell
      go_wp2_with fail
      go_loopg [13, 61] q (fun g vo vi wr => ∃ k, g + k = q ∧ vi = .int .i64 (k : Int) ∧ Sep w wr [rowT 0 35 2 vo k (flat enC (MF.cells.take k)), memT b' MF, rowT 0 57 10 (.slice el MF.trace.length ec) MF.trace.length (flat enEv MF.trace), memT b MF])
      case atStart => exact ⟨0, by omega, rfl, HS.out⟩
      case round =>
        clear HS
        obtain ⟨j, hgj, rfl, hS⟩ := hrel
        obtain ⟨oa, oc, rfl⟩ := hS.form 0 rfl
        by_cases hj : j < q
        · have hji : (j : Int) < (r : Int) + 1 := by have := HQ.out; omega
          have hjq : j < MF.cells.length := by rw [HRC.out]; exact hj
          have hp := peek_at hjq
          have htk : flat enC (MF.cells.take (j + 1)) = flat enC (MF.cells.take j) ++ enC (MF.at j) := by
            rw [List.take_succ_eq_append_getElem hjq, flat_app, flat_one]
            simp [M.at, List.getD_eq_getElem?_getD, hjq]
          have HP := Lib.hid hp; have HS := Lib.hid hS; have HT := Lib.hid htk
          clear hp hS htk
          generalize MF.at j = cc at *
          obtain ⟨z1, z2⟩ := cc
          go_wp2_with fail
          obtain ⟨_, vc, vt, hM⟩ := sep_mem HS.out 3 rfl
          refine (peek_any _ b vc vt _ j hM).mono ?_
          rintro e w10 ⟨rfl, hf⟩
          rw [HP.out]
          have hS := ((HS.out.fr0 hf).new 35 [.int .u64 z1, .int .u64 z2]).new 35 [.int .u64 z1, .int .u64 z2]
          simp only [World.size_alloc] at hS
          clear hM hf HS
          have HS := Lib.hid hS
          clear hS
          go_wp2_with (at_builtin; go_must (refine wpList_push_blk _ rfl _ _ 28 rfl 0 35 i0 _ 2 16 Try.underlying28 hi0 hz0 hz1 hz2 rfl (by decide) (.slice oa j oc) j (flat enC (MF.cells.take j)) rfl (HS.out.row 2 rfl) (enC (z1, z2)) _ _ rfl (HS.out.blk 0 rfl) rfl (enC_one _) (by unfold maxLen; omega) (by omega) (Nat.zero_le _) ?_))
          intro g2 c2' w12 hown hg2 hgg hc1 hc2'
          have h3 := (HS.out.grown 2 rfl hown hg2 (fun q e => by
            rcases hgg with h1 | h1
            · exact .inl (h1.trans e)
            · right; simp only [Value.ownBlock, Option.some.injEq] at e; rw [← e, h1]; simp)).tail.tail
          rw [← HT.out] at h3
          have HS3 := Lib.hid (show Sep w w12 [rowT 0 35 2 (.slice (some ⟨g2, 0, none⟩) (j + 1) c2') (j + 1) (flat enC (MF.cells.take (j + 1))), memT b' MF, rowT 0 57 10 (.slice el MF.trace.length ec) MF.trace.length (flat enEv MF.trace), memT b MF] from h3)
          clear h3 hown hg2 hgg HS HT
          go_wp2_with fail
          go_roundg (q - (j + 1))
          case measure => omega
          case rel => exact ⟨j + 1, by omega, by go_num, HS3.out⟩
        · obtain rfl : j = q := by omega
          have hqe : ¬ ((j : Int) < (r : Int) + 1) := by have := HQ.out; omega
          rw [List.take_of_length_le (by rw [HRC.out]; omega)] at hS
          have HS := Lib.hid hS
          clear hS
          generalize gk = GG at *
          go_wp2_with fail
          go_loopg [77] LB.length (fun g vi wr => ∃ k, g + k = LB.length ∧ vi = .int .i64 (k : Int) ∧ Sep w wr [rowT 0 35 2 (.slice oa j oc) j (flat enC MF.cells), memT b' (boths MF (LB.take k)), rowT 0 57 10 (.slice el MF.trace.length ec) MF.trace.length (flat enEv MF.trace), memT b MF])
          case atStart => exact ⟨0, by omega, rfl, HS.out⟩
          case round =>
            clear HS
            obtain ⟨k, hg, rfl, hS⟩ := hrel
            by_cases hk : k < LB.length
            · have hki : (k : Int) < (LB.length : Int) := by omega
              obtain ⟨x, rfl, hx, c0, c1⟩ := (HB.out.fr hS.fr).at hk
              have hrt := (boths_prefix (LB.take k) MF).2
              rw [List.length_take] at hrt
              have hrs := boths_succ MF LB hk
              generalize LB[k] = s at *
              obtain ⟨s0, s1, s2, s3, s4, s5, s6⟩ := s
              have d0 := c0 _ rfl
              have d1 := c1 0 _ rfl
              have d2 := c1 1 _ rfl
              have d3 := c1 2 _ rfl
              have d4 := c1 3 _ rfl
              have d5 := c1 4 _ rfl
              have d6 := c1 5 _ rfl
              clear c0 c1
              have HS := Lib.hid (hS.new 39 (enSt (s0, ⟨s1, s2, s3, s4, s5, s6⟩)))
              have HRS := Lib.hid hrs
              have hrt2 : (boths MF (LB.take k)).trace.length ≤ 100000 := by omega
              clear hS hrs hrt
              go_wp2_with fail
              refine ((HS.out.call 2 rfl (fun R hR => do_any hR hrt2 s0 ⟨s1, s2, s3, s4, s5, s6⟩))).mono ?_
              rintro e w15 ⟨rfl, hS⟩
              have q2 := (hS.blk 0 rfl).cell 2
              have q5 := (hS.blk 0 rfl).cell 5
              have q6 := (hS.blk 0 rfl).cell 6
              simp only [enSt, List.getElem?_cons_zero, List.getElem?_cons_succ] at q2 q5 q6
              have HS2 := Lib.hid hS
              clear hS HS d0 d1 d2 d3 d4 d5 d6
              go_wp2_with fail
              refine ((HS2.out.call 2 rfl (fun R hR => set_any hR s2 (s5, s6)))).mono ?_
              rintro e w16 ⟨rfl, hS⟩
              have HS := Lib.hid hS.tail
              clear hS HS2 q2 q5 q6
              go_wp2_with fail
              go_roundg (LB.length - (k + 1))
              case measure => omega
              case rel => exact ⟨k + 1, by omega, rfl, by rw [HRS.out]; exact HS.out⟩
            · obtain rfl : k = LB.length := by omega
              rw [List.take_of_length_le (by omega)] at hS
              obtain ⟨hpre, hnl⟩ := boths_prefix LB MF
              obtain ⟨N, hN⟩ : ∃ M, boths MF LB = M := ⟨_, rfl⟩
              rw [hN] at hS hpre hnl
              have hnn : (N.trace.length : Int) ≤ 120 := by omega
              have hpl : (MF.trace.length : Int) ≤ (N.trace.length : Int) := by have := hpre.length_le; omega
              have HPRE := Lib.hid hpre; have HS := Lib.hid hS
              clear hpre hS hN hnl
              have hne : ((MF.trace.length : Int) != (MF.trace.length : Int)) = false := by simp
              have hlt : decide ((N.trace.length : Int) < (MF.trace.length : Int)) = false := by simp; omega
              generalize gk = G3 at *
              go_wp2_with fail
              obtain ⟨_, vc, vt, hM⟩ := sep_mem HS.out 3 rfl
              refine (total_any _ b vc vt _ hM).mono ?_
              rintro e w17 ⟨rfl, rfl⟩
              clear hM
              go_wp2_with fail
              obtain ⟨_, vc, vt, hM⟩ := sep_mem HS.out 3 rfl
              refine (lawevents_any _ b vc vt _ 1000 hM (by omega)).mono ?_
              rintro e w18 ⟨vl, rfl, hF⟩
              unfold EvRow at hF
              rw [List.take_of_length_le (show MF.trace.length ≤ Int.toNat 1000 by show _ ≤ 1000; omega)] at hF
              obtain ⟨el2, ec2, rfl⟩ := hF.form
              have HS2 := Lib.hid (HS.out.fr0 hF.fr)
              clear hM hF HS
              go_wp2_with fail
              obtain ⟨_, vc, vt, hM⟩ := sep_mem HS2.out 1 rfl
              refine (total_any _ b' vc vt _ hM).mono ?_
              rintro e w19 ⟨rfl, rfl⟩
              clear hM
              go_wp2_with fail
              obtain ⟨_, vc, vt, hM⟩ := sep_mem HS2.out 1 rfl
              refine (lawevents_any _ b' vc vt _ 1000 hM (by omega)).mono ?_
              rintro e w20 ⟨vl, rfl, hF⟩
              unfold EvRow at hF
              rw [List.take_of_length_le (show N.trace.length ≤ Int.toNat 1000 by show _ ≤ 1000; omega)] at hF
              obtain ⟨el3, ec3, rfl⟩ := hF.form
              have HS := Lib.hid (HS2.out.fresh hF)
              clear hM hF HS2
              go_wp2_with fail
              go_loopg [119] N.trace.length (fun g vi wr => ∃ k, g + k = N.trace.length ∧ vi = .int .i64 (k : Int) ∧ Sep w wr (rowT 0 57 10 (.slice el3 N.trace.length ec3) N.trace.length (flat enEv N.trace) :: [rowT 0 35 2 (.slice oa j oc) j (flat enC MF.cells), memT b' N, rowT 0 57 10 (.slice el MF.trace.length ec) MF.trace.length (flat enEv MF.trace), memT b MF]))
              case atStart => exact ⟨0, by omega, rfl, HS.out⟩
              case round =>
                clear HS
                obtain ⟨k, hg, rfl, hS⟩ := hrel
                by_cases hk : k < N.trace.length
                · have hki : (k : Int) < (N.trace.length : Int) := by omega
                  have hrow := hS.row 0 rfl
                  obtain ⟨g, c, e, hgl⟩ : ∃ g c, Value.slice el3 N.trace.length ec3 = .slice (some ⟨g, 0, none⟩) N.trace.length c ∧ g < wr.heap.size := by
                    rcases ownsRow_form hrow with ⟨_, h0⟩ | ⟨g, c, e, h1, _⟩
                    · omega
                    · exact ⟨g, c, e, h1⟩
                  simp only [Value.slice.injEq, true_and] at e
                  obtain ⟨rfl, rfl⟩ := e
                  have c_0 := ev_cells hrow hk 0 (by decide) _ rfl
                  have c_1 := ev_cells hrow hk 1 (by decide) _ rfl
                  have c_2 := ev_cells hrow hk 2 (by decide) _ rfl
                  have c_3 := ev_cells hrow hk 3 (by decide) _ rfl
                  have c_4 := ev_cells hrow hk 4 (by decide) _ rfl
                  have c_5 := ev_cells hrow hk 5 (by decide) _ rfl
                  have c_6 := ev_cells hrow hk 6 (by decide) _ rfl
                  have c_7 := ev_cells hrow hk 7 (by decide) _ rfl
                  have c_8 := ev_cells hrow hk 8 (by decide) _ rfl
                  have c_9 := ev_cells hrow hk 9 (by decide) _ rfl
                  rw [Nat.add_zero] at c_0
                  by_cases hk2 : k < MF.trace.length
                  · have hki2 : (k : Int) < (MF.trace.length : Int) := by omega
                    have hrow2 := hS.row 3 rfl
                    obtain ⟨g2, c2, e, hgl2⟩ : ∃ g c, Value.slice el MF.trace.length ec = .slice (some ⟨g, 0, none⟩) MF.trace.length c ∧ g < wr.heap.size := by
                      rcases ownsRow_form hrow2 with ⟨_, h0⟩ | ⟨g, c, e, h1, _⟩
                      · omega
                      · exact ⟨g, c, e, h1⟩
                    simp only [Value.slice.injEq, true_and] at e
                    obtain ⟨rfl, rfl⟩ := e
                    have hxx : MF.trace[k] = N.trace[k] := HPRE.out.getElem hk2
                    generalize N.trace[k] = x at *
                    obtain ⟨x0, ⟨x1, x2, x3, x4, x5, x6⟩, ⟨x7, x8, x9⟩⟩ := x
                    have HS := Lib.hid (hS.new 57 (enEv ⟨x0, ⟨x1, x2, x3, x4, x5, x6⟩, ⟨x7, x8, x9⟩⟩))
                    have hrow3 := HS.out.row 4 rfl
                    have d_0 := ev_cells hrow3 hk2 0 (by decide) _ rfl
                    have d_1 := ev_cells hrow3 hk2 1 (by decide) _ rfl
                    have d_2 := ev_cells hrow3 hk2 2 (by decide) _ rfl
                    have d_3 := ev_cells hrow3 hk2 3 (by decide) _ rfl
                    have d_4 := ev_cells hrow3 hk2 4 (by decide) _ rfl
                    have d_5 := ev_cells hrow3 hk2 5 (by decide) _ rfl
                    have d_6 := ev_cells hrow3 hk2 6 (by decide) _ rfl
                    have d_7 := ev_cells hrow3 hk2 7 (by decide) _ rfl
                    have d_8 := ev_cells hrow3 hk2 8 (by decide) _ rfl
                    have d_9 := ev_cells hrow3 hk2 9 (by decide) _ rfl
                    rw [Nat.add_zero] at d_0
                    rw [hxx] at d_0 d_1 d_2 d_3 d_4 d_5 d_6 d_7 d_8 d_9
                    dsimp only [enEv] at c_0 c_1 c_2 c_3 c_4 c_5 c_6 c_7 c_8 c_9 d_0 d_1 d_2 d_3 d_4 d_5 d_6 d_7 d_8 d_9
                    clear hrow hrow2 hrow3 hS hxx
                    go_wp2_with fail
                    refine wp_region_fr [(1, [0, 1, 2, 3, 4, 5, 6, 7, 8, 9, 10, 11])] [] (by kernel_rfl) (by kernel_rfl) ?_
                    simp only [theOps, nthOp, List.map_cons, List.map_nil, Array.getD_eq_getD_getElem?, List.getElem?_toArray, List.getElem?_cons_succ, List.getElem?_cons_zero, Option.getD_some]
                    repeat ((first | refine wpSegs_soft ?_ | refine wpSegs_pure ?_ | refine wpSegs_here ?_); (repeat (first | go_big_quiet_step (fail) | quiet_step (fail))); refine wpQuiet_nil ?_)
                    refine wpSegs_done ?_
                    go_wp2_with fail
                    go_roundg (N.trace.length - (k + 1))
                    case measure => omega
                    case rel => exact ⟨k + 1, by omega, by go_num, HS.out.drew.tail⟩
                  · have hki2 : decide ((k : Int) < (MF.trace.length : Int)) = false := by simp; omega
                    generalize N.trace[k] = x at *
                    obtain ⟨x0, ⟨x1, x2, x3, x4, x5, x6⟩, ⟨x7, x8, x9⟩⟩ := x
                    have HS := Lib.hid (hS.new 57 (enEv ⟨x0, ⟨x1, x2, x3, x4, x5, x6⟩, ⟨x7, x8, x9⟩⟩))
                    dsimp only [enEv] at c_0 c_1 c_2 c_3 c_4 c_5 c_6 c_7 c_8 c_9
                    clear hrow hS
                    go_wp2_with fail
                    refine wp_region_fr [(1, [0, 1, 2, 3, 4, 5, 6, 7, 8, 9, 10, 11])] [] (by kernel_rfl) (by kernel_rfl) ?_
                    simp only [theOps, nthOp, List.map_cons, List.map_nil, Array.getD_eq_getD_getElem?, List.getElem?_toArray, List.getElem?_cons_succ, List.getElem?_cons_zero, Option.getD_some]
                    repeat ((first | refine wpSegs_soft ?_ | refine wpSegs_pure ?_ | refine wpSegs_here ?_); (repeat (first | go_big_quiet_step (fail) | quiet_step (fail))); refine wpQuiet_nil ?_)
                    refine wpSegs_done ?_
                    go_wp2_with fail
                    go_roundg (N.trace.length - (k + 1))
                    case measure => omega
                    case rel => exact ⟨k + 1, by omega, by go_num, HS.out.drew.tail⟩
                · obtain rfl : k = N.trace.length := by omega
                  have HS := Lib.hid hS.tail
                  clear hS
                  generalize gk = G4 at *
                  go_wp2_with fail
                  go_loopg [138] j (fun g vi wr => ∃ i, g + i = j ∧ vi = .int .i64 (i : Int) ∧ Sep w wr [rowT 0 35 2 (.slice oa j oc) j (flat enC MF.cells), memT b' N, rowT 0 57 10 (.slice el MF.trace.length ec) MF.trace.length (flat enEv MF.trace), memT b MF])
                  case atStart => exact ⟨0, by omega, rfl, HS.out⟩
                  case round =>
                    clear HS
                    obtain ⟨i, hgi, rfl, hS⟩ := hrel
                    by_cases hi : i < j
                    · have hii : (i : Int) < (r : Int) + 1 := by have := HQ.out; omega
                      have hii2 : (i : Int) < (j : Int) := by omega
                      have hiq : i < MF.cells.length := by rw [HRC.out]; exact hi
                      have hp := peek_at hiq
                      have hrow := hS.row 0 rfl
                      obtain ⟨g, c, e, hgl⟩ : ∃ g c, Value.slice oa j oc = .slice (some ⟨g, 0, none⟩) j c ∧ g < wr.heap.size := by
                        rcases ownsRow_form hrow with ⟨_, h0⟩ | ⟨g, c, e, h1, _⟩
                        · omega
                        · exact ⟨g, c, e, h1⟩
                      simp only [Value.slice.injEq, true_and] at e
                      obtain ⟨rfl, rfl⟩ := e
                      have hat : MF.at i = MF.cells[i] := by simp [M.at, List.getD_eq_getElem?_getD, hiq]
                      have hP := Lib.hid hp
                      clear hp
                      have HF2 := Lib.hid (show flat enC MF.cells = flat enC MF.cells ∧ (flat enC MF.cells)[i * 2]? = some (.int .u64 (MF.at i).1) ∧ (flat enC MF.cells)[i * 2 + 1]? = some (.int .u64 (MF.at i).2) from by
                        refine ⟨rfl, ?_, ?_⟩
                        · have := flat_get enC_len MF.cells i hiq 0 (by decide); rw [hat]; simpa [enC] using this
                        · have := flat_get enC_len MF.cells i hiq 1 (by decide); rw [hat]; simpa [enC] using this)
                      clear hat hrow
                      generalize MF.at i = cc at *
                      obtain ⟨z1, z2⟩ := cc
                      have HS := Lib.hid hS
                      clear hS
                      go_wp2_with fail
                      obtain ⟨_, vc, vt, hM⟩ := sep_mem HS.out 3 rfl
                      refine (peek_any _ b vc vt _ i hM).mono ?_
                      rintro e w10 ⟨rfl, hf⟩
                      rw [hP.out]
                      have hS := (HS.out.fr0 hf).new 35 [.int .u64 z1, .int .u64 z2]
                      clear hM hf HS
                      have r0 := ownsRow_cell (hS.row 1 rfl) _ _ HF2.out.2.1
                      have r1 := ownsRow_cell (hS.row 1 rfl) _ _ HF2.out.2.2
                      have HS := Lib.hid hS
                      clear hS
                      go_wp2_with fail
                      refine wp_region_fr [(1, [0, 1, 2, 3, 4, 5])] [] (by kernel_rfl) (by kernel_rfl) ?_
                      simp only [theOps, nthOp, List.map_cons, List.map_nil, Array.getD_eq_getD_getElem?, List.getElem?_toArray, List.getElem?_cons_succ, List.getElem?_cons_zero, Option.getD_some]
                      repeat ((first | refine wpSegs_soft ?_ | refine wpSegs_pure ?_ | refine wpSegs_here ?_); (repeat (first | go_big_quiet_step (fail) | quiet_step (fail))); refine wpQuiet_nil ?_)
                      refine wpSegs_done ?_
                      go_wp2_with fail
                      go_roundg (j - (i + 1))
                      case measure => omega
                      case rel => exact ⟨i + 1, by omega, by go_num, HS.out.drew.tail⟩
                    · obtain rfl : i = j := by omega
                      have hqe : ¬ ((i : Int) < (r : Int) + 1) := by have := HQ.out; omega
                      have hpe : putErr MF (i : Int) = 31 := by unfold putErr; rw [if_neg (by have := HRC.out; omega)]
                      have hpn : putErr MF (-1) = 31 := by unfold putErr; rw [if_neg (by omega)]
                      have hme : M.put MF (i : Int) (0, 0) = MF := by unfold M.put; rw [if_neg (by have := HRC.out; omega)]
                      have hmn : M.put MF (-1) (0, 0) = MF := by unfold M.put; rw [if_neg (by omega)]
                      have HPE := Lib.hid hpe; have HPN := Lib.hid hpn; have HME := Lib.hid hme; have HMN := Lib.hid hmn; have HS := Lib.hid hS
                      have hbt : ((MF.trace.length : Int) == (MF.trace.length : Int)) = true := by simp
                      clear hpe hpn hme hmn hS
                      go_wp2_with fail
                      refine ((HS.out.call 3 rfl (fun R hR => set_any hR (i : Int) (0, 0)))).mono ?_
                      rintro e w16 ⟨rfl, hS⟩
                      rw [HPE.out]
                      rw [HME.out] at hS
                      clear HS
                      have HS := Lib.hid hS
                      clear hS
                      go_wp2_with fail
                      refine ((HS.out.call 3 rfl (fun R hR => set_any hR (-1) (0, 0)))).mono ?_
                      rintro e w17 ⟨rfl, hS⟩
                      rw [HPN.out]
                      rw [HMN.out] at hS
                      clear HS
                      have HS := Lib.hid hS
                      clear hS
                      go_wp2_with fail
                      obtain ⟨_, vc, vt, hM⟩ := sep_mem HS.out 3 rfl
                      refine (total_any _ b vc vt _ hM).mono ?_
                      rintro e w18 ⟨rfl, rfl⟩
                      clear hM
                      go_wp2_with fail
                      go_ret
                      exact ⟨rfl, HS.out.fr⟩
end Go.Proofs.Ytbgmcekbldponaa
