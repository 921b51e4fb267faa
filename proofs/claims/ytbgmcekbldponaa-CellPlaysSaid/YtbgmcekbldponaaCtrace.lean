/- The walk of CellTrace. -/
import Derived.Test.YtbgmcekbldponaaClaw
import Derived.Test.YtbgmcekbldponaaCsteps
set_option linter.unusedSimpArgs false
set_option linter.unusedVariables false
namespace Go.Proofs.Ytbgmcekbldponaa
open Go.RowKit Go.Tum Go.Tum.C

theorem peek_at {m : M} {j : Nat} (h : j < m.cells.length) : peek m j = (m.at j, true) := by
  unfold peek; rw [if_pos (by omega), Int.toNat_natCast]

set_option maxHeartbeats 8000000 in
set_option maxRecDepth 100000 in
theorem trace_law (size : Int) (v : Value) (L : List St) (w : World) (ha : ArgE enSt 7 w v L) (hL : L.length ≤ maxLen) :
    Calls Try.prog 6 #[.int .i64 size, v] w fun e w' => e = .returned (.bool true) ∧ Fr [] w w' := by
  obtain ⟨r, hr, er⟩ : ∃ r : Nat, r < 32 ∧ bits .and .i64 size 31 = (r : Int) := and_i64_low size 5 (by decide)
  obtain ⟨la, lc, rfl⟩ := ha.len
  have HA := Lib.hid ha; have HE := Lib.hid er
  clear ha er
  by_cases h60 : 60 < L.length
  · have h1i : (60 : Int) < (L.length : Int) := by omega
    go_enter Try.func6, Try.ntmps6
    go_wp2_with fail
    refine (alive_any _).mono ?_
    rintro e w1 ⟨rfl, hf⟩
    have HF := Lib.hid hf
    clear hf
    go_wp2_with fail
    go_ret
    exact ⟨rfl, HF.out⟩
  have h1i : (L.length : Int) ≤ 60 := by omega
  go_enter Try.func6, Try.ntmps6
  go_wp2_with fail
  refine (alive_any _).mono ?_
  rintro e w1 ⟨rfl, hf⟩
  have HF := Lib.hid hf
  have HE2 := HE.out
  clear hf
  go_wp2_with fail
  clear HE2
  have hn : r + 1 ≤ 65536 := by omega
  rw [show (1 : Int) + (r : Int) = ((r + 1 : Nat) : Int) from by omega]
  refine (new_any w1 (r + 1) hn).mono ?_
  rintro e w2 ⟨b, rfl, hF⟩
  have HS := Lib.hid ((Sep.nil HF.out).fresh hF)
  clear hF
  go_wp2_with fail
  refine (new_any w2 (r + 1) hn).mono ?_
  rintro e w3 ⟨b', rfl, hF⟩
  have HN := Lib.hid (HS.out.fresh hF)
  clear hF HS HF
  generalize hq : r + 1 = q at *
  have HQ := Lib.hid hq; clear hq
  obtain ⟨M0, hM0⟩ : ∃ M, newM q = M := ⟨_, rfl⟩
  have hM0t : M0.trace = [] := by rw [← hM0]; rfl
  have hM0g : C.Good M0 := by rw [← hM0]; exact good_new q
  have hM0c : M0.cells.length = q := by rw [← hM0]; simp [newM]
  rw [hM0] at HN
  have HMT := Lib.hid hM0t; have HMG := Lib.hid hM0g; have HMC := Lib.hid hM0c
  have hM0l : M0.trace.length = 0 := by rw [hM0t]; rfl
  clear hM0 hM0t hM0g hM0c
  go_wp2_with fail
  go_loopg [43] L.length (fun g vi wr => ∃ k, g + k = L.length ∧ vi = .int .i64 (k : Int) ∧ Sep w wr [memT b' M0, memT b (run M0 (L.take k))])
  case atStart => exact ⟨0, by omega, rfl, HN.out⟩
  case round =>
    clear HN
    obtain ⟨k, hg, rfl, hS⟩ := hrel
    by_cases hk : k < L.length
    · have hki : (k : Int) < (L.length : Int) := by omega
      obtain ⟨x, rfl, hx, c0, c1⟩ := (HA.out.fr hS.fr).at hk
      have hrt := run_trace (L.take k) M0
      rw [List.length_take] at hrt
      have hrs := run_succ M0 L hk
      generalize L[k] = s at *
      obtain ⟨s0, s1, s2, s3, s4, s5, s6⟩ := s
      have d0 := c0 _ rfl
      have d1 := c1 0 _ rfl
      have d2 := c1 1 _ rfl
      have d3 := c1 2 _ rfl
      have d4 := c1 3 _ rfl
      have d5 := c1 4 _ rfl
      have d6 := c1 5 _ rfl
      clear c0 c1
      have HS := Lib.hid (hS.new 39 (enSt (s0, ⟨s1, s2, s3, s4, s5, s6⟩)))
      have HRS := Lib.hid hrs
      have hrt2 : (run M0 (L.take k)).trace.length ≤ 100000 := by omega
      clear hS hrs hrt
      go_wp2_with fail
      refine ((HS.out.call 2 rfl (fun R hR => do_any hR hrt2 s0 ⟨s1, s2, s3, s4, s5, s6⟩))).mono ?_
      rintro e w5 ⟨rfl, hS⟩
      have HS2 := Lib.hid hS.tail
      clear hS HS
      go_wp2_with fail
      go_roundg (L.length - (k + 1))
      case measure => omega
      case rel => exact ⟨k + 1, by omega, rfl, by rw [HRS.out]; exact HS2.out⟩
    · obtain rfl : k = L.length := by omega
      rw [List.take_of_length_le (by omega)] at hS
      have hrt := run_trace L M0
      have hrc := run_cells L M0
      have hrp := replay_run L (replay_new HMT.out)
      have hrg := good_run L HMG.out
      rw [HMC.out] at hrc
      rw [hM0l] at hrt
      obtain ⟨MF, hMF⟩ : ∃ M, run M0 L = M := ⟨_, rfl⟩
      rw [hMF] at hS hrt hrc hrp hrg
      have HS := Lib.hid hS; have HRC := Lib.hid hrc; have HRP := Lib.hid hrp; have HRG := Lib.hid hrg
      have hti : (MF.trace.length : Int) ≤ 60 := by omega
      clear hS hrt hrc hrp hrg hMF
      generalize gk = G at *
      go_wp2_with fail
      obtain ⟨_, vc, vt, hM⟩ := sep_mem HS.out 1 rfl
      refine (lawevents_any _ b vc vt _ 1000 hM (by omega)).mono ?_
      rintro e w5 ⟨vl, rfl, hF⟩
      unfold EvRow at hF
      rw [List.take_of_length_le (show MF.trace.length ≤ Int.toNat 1000 by show _ ≤ 1000; omega)] at hF
      obtain ⟨el, ec, rfl⟩ := hF.form
      have HV := Lib.hid (HS.out.fresh hF)
      clear hM hF HS
      go_wp2_with fail
      go_loopg [11, 57] MF.trace.length (fun g vn vi wr => ∃ k, g + k = MF.trace.length ∧ vn = .int .i64 (k : Int) ∧ vi = .int .i64 (k : Int) ∧ Sep w wr [rowT 0 57 10 (.slice el MF.trace.length ec) MF.trace.length (flat enEv MF.trace), memT b' (run M0 ((MF.trace.take k).map evSt)), memT b MF])
      case atStart => exact ⟨0, by omega, rfl, rfl, HV.out⟩
      case round =>
        clear HV
        obtain ⟨k, hgk, rfl, rfl, hS⟩ := hrel
        by_cases hk : k < MF.trace.length
        · have hki : (k : Int) < (MF.trace.length : Int) := by omega
          have hrow := hS.row 0 rfl
          obtain ⟨g, c, e, hgl⟩ : ∃ g c, Value.slice el MF.trace.length ec = .slice (some ⟨g, 0, none⟩) MF.trace.length c ∧ g < wr.heap.size := by
            rcases ownsRow_form hrow with ⟨_, h0⟩ | ⟨g, c, e, h1, _⟩
            · omega
            · exact ⟨g, c, e, h1⟩
          simp only [Value.slice.injEq, true_and] at e
          obtain ⟨rfl, rfl⟩ := e
          have c0 := ev_cells hrow hk 0 (by decide) _ rfl
          have c1 := ev_cells hrow hk 1 (by decide) _ rfl
          have c2 := ev_cells hrow hk 2 (by decide) _ rfl
          have c3 := ev_cells hrow hk 3 (by decide) _ rfl
          have c4 := ev_cells hrow hk 4 (by decide) _ rfl
          have c5 := ev_cells hrow hk 5 (by decide) _ rfl
          have c6 := ev_cells hrow hk 6 (by decide) _ rfl
          have c7 := ev_cells hrow hk 7 (by decide) _ rfl
          have c8 := ev_cells hrow hk 8 (by decide) _ rfl
          have c9 := ev_cells hrow hk 9 (by decide) _ rfl
          rw [Nat.add_zero] at c0
          have hea := HRP.out.each k hk
          have hst : run M0 ((MF.trace.take (k + 1)).map evSt) = (run M0 ((MF.trace.take k).map evSt)).step MF.trace[k].who MF.trace[k].op := by
            rw [List.take_succ_eq_append_getElem hk, List.map_append, run_app]; rfl
          have hrt := run_trace ((MF.trace.take k).map evSt) M0
          rw [List.length_map, List.length_take] at hrt
          obtain ⟨MK, hMK⟩ : ∃ M, run M0 ((MF.trace.take k).map evSt) = M := ⟨_, rfl⟩
          rw [hMK] at hS hea hst hrt
          have hMKl : MK.trace.length ≤ 100000 := by omega
          generalize MF.trace[k] = x at *
          obtain ⟨x0, ⟨x1, x2, x3, x4, x5, x6⟩, ⟨x7, x8, x9⟩⟩ := x
          dsimp only [enEv] at c0 c1 c2 c3 c4 c5 c6 c7 c8 c9
          dsimp only at hea hst
          have hS := hS.new 57 (enEv ⟨x0, ⟨x1, x2, x3, x4, x5, x6⟩, ⟨x7, x8, x9⟩⟩)
          have HS := Lib.hid hS; have HEA := Lib.hid hea; have HST := Lib.hid hst
          clear hS hea hst hrt hMK hrow
          go_wp2_with fail
          refine ((HS.out.call 2 rfl (fun R hR => do_to hR hMKl x0 ⟨x1, x2, x3, x4, x5, x6⟩ HEA.out.2 HEA.out.1 rfl))).mono ?_
          rintro e w6 ⟨rfl, hS⟩
          unfold outV
          dsimp only
          have hS := hS.new 41 [.int .u64 x7, .int .u64 x8, .bool x9]
          have q7 := (hS.blk 1 rfl).cell 7
          have q8 := (hS.blk 1 rfl).cell 8
          have q9 := (hS.blk 1 rfl).cell 9
          simp only [enEv, List.getElem?_cons_zero, List.getElem?_cons_succ] at q7 q8 q9
          have ql := (hS.blk 1 rfl).lt
          clear c0 c1 c2 c3 c4 c5 c6 c7 c8 c9 HS
          have HS := Lib.hid hS.tail.tail
          clear hS
          go_wp2_with fail
          go_roundg (MF.trace.length - (k + 1))
          case measure => omega
          case rel => exact ⟨k + 1, by omega, by go_num, by go_num, by rw [HST.out]; exact HS.out⟩
        · obtain rfl : k = MF.trace.length := by omega
          rw [List.take_of_length_le (Nat.le_refl _), HRP.out.all] at hS
          have HS := Lib.hid hS.tail
          clear hS
          go_wp2_with fail
          have hsum := sumTo_all HRG.out HRP.out
          have HSUM := Lib.hid hsum
          clear hsum
          go_loopg [16, 81] 8 (fun g vs vi wr => ∃ j, g + j = 8 ∧ vs = .int .i64 (sumTo MF j) ∧ vi = .int .i64 (j : Int) ∧ Sep w wr [memT b' MF, memT b MF])
          case atStart => exact ⟨0, by omega, rfl, rfl, HS.out⟩
          case round =>
            clear HS
            obtain ⟨j, hgj, rfl, rfl, hS⟩ := hrel
            by_cases hj : j < 8
            · have hji : (j : Int) < 8 := by omega
              have hb1 := HRG.out.bound hj
              have hb0 : 0 ≤ sumTo MF j ∧ sumTo MF j ≤ 480 := by
                rw [sumTo_B HRG.out j (by omega)]
                have : ∀ i, sumB MF.trace i ≤ i * MF.trace.length := by
                  intro i
                  induction i with
                  | zero => simp [sumB]
                  | succ i ih =>
                    have h1 : countBy MF.trace i ≤ MF.trace.length := List.countP_le_length
                    simp only [sumB, Nat.succ_mul]; omega
                have h1 := this j
                have h2 : j * MF.trace.length ≤ 8 * 60 := Nat.mul_le_mul (by omega) (by omega)
                omega
              have hs : stepsOf MF j = MF.cnt j := by unfold stepsOf; rw [if_pos (by omega), Int.toNat_natCast]
              have hst : sumTo MF (j + 1) = sumTo MF j + MF.cnt j := rfl
              have HSJ := Lib.hid hs; have HST := Lib.hid hst; have HS := Lib.hid hS
              clear hs hst hS
              generalize MF.cnt j = cj at *
              generalize sumTo MF j = sj at *
              go_wp2_with fail
              obtain ⟨_, vc, vt, hM⟩ := sep_mem HS.out 1 rfl
              refine (steps_any _ b vc vt _ j hM).mono ?_
              rintro e w8 ⟨rfl, rfl⟩
              rw [HSJ.out]
              clear hM
              go_wp2_with fail
              obtain ⟨_, vc, vt, hM⟩ := sep_mem HS.out 0 rfl
              refine (steps_any _ b' vc vt _ j hM).mono ?_
              rintro e w8 ⟨rfl, rfl⟩
              rw [HSJ.out]
              clear hM
              go_wp2_with fail
              obtain ⟨_, vc, vt, hM⟩ := sep_mem HS.out 1 rfl
              refine (steps_any _ b vc vt _ j hM).mono ?_
              rintro e w8 ⟨rfl, rfl⟩
              rw [HSJ.out]
              clear hM
              go_wp2_with fail
              go_roundg (8 - (j + 1))
              case measure => omega
              case rel => exact ⟨j + 1, by omega, by rw [HST.out], by go_num, HS.out⟩
            · obtain rfl : j = 8 := by omega
              rw [HSUM.out]
              have HS := Lib.hid hS
              clear hS
              generalize gk = GG at *
              go_wp2_with fail
              go_loopg [98] q (fun g vi wr => ∃ j, g + j = q ∧ vi = .int .i64 (j : Int) ∧ Sep w wr [memT b' MF, memT b MF])
              case atStart => exact ⟨0, by omega, rfl, HS.out⟩
              case round =>
                clear HS
                obtain ⟨j, hgj, rfl, hS⟩ := hrel
                by_cases hj : j < q
                · have hji : (j : Int) < (r : Int) + 1 := by have := HQ.out; omega
                  have hp := peek_at (m := MF) (j := j) (by rw [HRC.out]; exact hj)
                  have HP := Lib.hid hp; have HS := Lib.hid hS
                  clear hp hS
                  generalize MF.at j = cc at *
                  obtain ⟨z1, z2⟩ := cc
                  go_wp2_with fail
                  obtain ⟨_, vc, vt, hM⟩ := sep_mem HS.out 1 rfl
                  refine (peek_any _ b vc vt _ j hM).mono ?_
                  rintro e w10 ⟨rfl, hf⟩
                  rw [HP.out]
                  have hS := (HS.out.fr0 hf).new 35 [.int .u64 z1, .int .u64 z2]
                  clear hM hf HS
                  have HS := Lib.hid hS
                  clear hS
                  go_wp2_with fail
                  obtain ⟨_, vc, vt, hM⟩ := sep_mem HS.out 1 rfl
                  refine (peek_any _ b' vc vt _ j hM).mono ?_
                  rintro e w11 ⟨rfl, hf⟩
                  rw [HP.out]
                  have hS := (HS.out.fr0 hf).new 35 [.int .u64 z1, .int .u64 z2]
                  have q0 := (hS.blk 1 rfl).cell 0
                  have q1 := (hS.blk 1 rfl).cell 1
                  simp only [List.getElem?_cons_zero, List.getElem?_cons_succ] at q0 q1
                  have ql := (hS.blk 1 rfl).lt
                  clear hM hf HS
                  have HS := Lib.hid hS.tail.tail
                  clear hS
                  go_wp2_with fail
                  go_roundg (q - (j + 1))
                  case measure => omega
                  case rel => exact ⟨j + 1, by omega, by go_num, HS.out⟩
                · obtain rfl : j = q := by omega
                  have hqe : ¬ ((j : Int) < (r : Int) + 1) := by have := HQ.out; omega
                  have HS := Lib.hid hS
                  have hb : ((MF.trace.length : Int) == (MF.trace.length : Int)) = true := by simp
                  clear hS
                  go_wp2_with fail
                  obtain ⟨_, vc, vt, hM⟩ := sep_mem HS.out 1 rfl
                  refine (total_any _ b vc vt _ hM).mono ?_
                  rintro e w10 ⟨rfl, rfl⟩
                  clear hM
                  go_wp2_with fail
                  go_ret
                  exact ⟨rfl, HS.out.fr⟩
end Go.Proofs.Ytbgmcekbldponaa
