/- The walk of WsetFull. -/
import Derived.Test.YtdhcaelhjpgliaaFplain
namespace Go.Proofs.Ytdhcaelhjpgliaa
open Go.RowKit Go.Tum Go.Tum.W

/-- Behind some rounds of a loop: a set that the call made, and where. -/
def FullRel (w : World) (b r f st : Nat) (g : Nat → Int) (d n k : Nat) (wr : World) : Prop :=
  ∃ fp dn, dn.length = d ∧ Live w wr b fp ⟨r, lst f st n g, dn⟩ ∧ k = k

theorem mul_bd {k r s : Nat} (hk : k ≤ r) (hr : r < 64) (hs : s ≤ 65536) : 0 ≤ (k : Int) * (s : Int) ∧ (k : Int) * (s : Int) ≤ 63 * 65536 := by
  have h : k * s ≤ 63 * 65536 := Nat.mul_le_mul (by omega) hs
  have h2 : ((k * s : Nat) : Int) = (k : Int) * (s : Int) := by simp
  omega

set_option maxHeartbeats 4000000 in
set_option maxRecDepth 100000 in
theorem full_any (room from_ step more : Int) (w : World) : Calls Try.prog 6 #[.int .i64 room, .int .i64 from_, .int .i64 step, .int .u64 more] w fun e w' => e = .returned (.bool true) ∧ Fr [] w w' := by
  obtain ⟨r, hr, er⟩ : ∃ r : Nat, r < 64 ∧ bits .and .i64 room 63 = (r : Int) := and_i64_low room 6 (by decide)
  obtain ⟨f, hf, ef⟩ : ∃ r : Nat, r < 65536 ∧ bits .and .i64 from_ 65535 = (r : Int) := and_i64_low from_ 16 (by decide)
  obtain ⟨st, hst, est⟩ : ∃ r : Nat, r < 65536 ∧ bits .and .i64 step 65535 = (r : Int) := and_i64_low step 16 (by decide)
  go_enter Try.func6, Try.ntmps6
  go_wp2_with fail
  refine (alive_any w).mono ?_
  rintro e w1 ⟨rfl, hf1⟩
  go_wp2_with fail
  refine (live_new hf1 r).mono ?_
  rintro e w2 ⟨b, fp, rfl, h, _, _⟩
  have er2 : roomOf (r : Int) = r := by unfold roomOf; omega
  rw [er2] at h
  obtain ⟨s1, es1⟩ : ∃ s1 : Nat, (1 + (st : Int)) = (s1 : Int) := ⟨1 + st, by simp⟩
  have hs1 : 0 < s1 ∧ s1 ≤ 65536 := by omega
  rw [es1]
  have H := Lib.hid h
  clear h er ef est er2 hf1
  go_wp2_with fail
  go_loopg [29] r (fun g vi wr => ∃ k, g + k = r ∧ vi = .int .i64 (k : Int) ∧ FullRel w b r f s1 (fun i => (i : Int)) k k 0 wr)
  case atStart => exact ⟨0, by omega, rfl, fp, [], rfl, H.out, rfl⟩
  case round =>
    obtain ⟨k, hg, rfl, fp, dn, hdn, h, _⟩ := hrel
    have hm := mul_bd (show k ≤ r by omega) hr hs1.2
    have hca : (f : Int) + (k : Int) * (s1 : Int) = cellAt f s1 k := by simp [cellAt]
    by_cases hk : k < r
    · have hki : (k : Int) < (r : Int) := by omega
      go_wp2_with fail
      refine (live_put_to h (lst_put _ hs1.1 hk dn) (by show dn.length ≤ _; omega)).mono ?_
      rintro e w3 ⟨rfl, fp3, h3, _, _⟩
      clear h
      go_wp2_with fail
      go_roundg (r - (k + 1))
      case measure => omega
      case rel => exact ⟨k + 1, by omega, rfl, fp3, _, by simp [hdn], h3, rfl⟩
    · obtain rfl : k = r := by omega
      clear hg
      generalize gk = G at *
      go_wp2_with fail
      refine (live_put_to h (lst_full _ hs1.1 1 dn) (by show dn.length ≤ _; omega)).mono ?_
      rintro e w3 ⟨rfl, fp3, h3, _, _⟩
      clear h
      go_wp2_with fail
      refine (live_len h3).mono ?_
      rintro e w4 ⟨rfl, rfl⟩
      simp only [lst_length]
      go_wp2_with fail
      go_loopg [58] k (fun g vi wr => ∃ j, g + j = k ∧ vi = .int .i64 (j : Int) ∧ FullRel w b k f s1 (turned j (fun i => (i : Int)) fun i => IntKind.u64.wrap (more + (i : Int))) (k + j) k 0 wr)
      case atStart => exact ⟨0, by omega, rfl, fp3, dn, hdn, by rw [turned_zero]; exact h3, rfl⟩
      case round =>
        obtain ⟨j, hg, rfl, fp, dn, hdn, h, _⟩ := hrel
        have hm := mul_bd (show j ≤ k by omega) hr hs1.2
        have hcj : (f : Int) + (j : Int) * (s1 : Int) = cellAt f s1 j := by simp [cellAt]
        by_cases hk : j < k
        · have hki : (j : Int) < (k : Int) := by omega
          obtain ⟨x, ex⟩ := lst_turn (f := f) (fun i => (i : Int)) (fun i => IntKind.u64.wrap (more + (i : Int))) hs1.1 hk dn
          go_wp2_with fail
          refine (live_put_to h ex (by show dn.length ≤ _; omega)).mono ?_
          rintro e w3 ⟨rfl, fp3, h3, _, _⟩
          clear h
          go_wp2_with fail
          go_roundg (k - (j + 1))
          case measure => omega
          case rel => exact ⟨j + 1, by omega, rfl, fp3, _, by simp [hdn]; omega, h3, rfl⟩
        · obtain rfl : j = k := by omega
          clear hg
          rw [turned_all] at h
          generalize gk = G at *
          go_wp2_with fail
          go_loopg [75] j (fun g vi wr => ∃ i, g + i = j ∧ vi = .int .i64 (i : Int) ∧ FullRel w b j f s1 (fun i => IntKind.u64.wrap (more + (i : Int))) (j + j) j 0 wr)
          case atStart => exact ⟨0, by omega, rfl, fp, dn, hdn, h, rfl⟩
          case round =>
            obtain ⟨i, hg, rfl, fp, dn, hdn, h, _⟩ := hrel
            have hm := mul_bd (show i ≤ j by omega) hr hs1.2
            have hci : (f : Int) + (i : Int) * (s1 : Int) = cellAt f s1 i := by simp [cellAt]
            by_cases hk : i < j
            · have hki : (i : Int) < (j : Int) := by omega
              go_wp2_with fail
              refine (live_get_to h (lst_read _ hs1.1 hk dn)).mono ?_
              rintro e w3 ⟨rfl, n3, rfl⟩
              go_wp2_with fail
              go_roundg (j - (i + 1))
              case measure => omega
              case rel => exact ⟨i + 1, by omega, rfl, fp, dn, hdn, h.drewN n3, rfl⟩
            · obtain rfl : i = j := by omega
              go_wp2_with fail
              refine (live_get_to h (lst_none _ hs1.1 dn)).mono ?_
              rintro e w3 ⟨rfl, n3, rfl⟩
              have h3 := h.drewN n3
              clear h
              go_wp2_with fail
              refine (live_len h3).mono ?_
              rintro e w4 ⟨rfl, rfl⟩
              simp only [lst_length]
              go_wp2_with fail
              refine (live_mark h3).mono ?_
              rintro e w4 ⟨rfl, rfl⟩
              rw [show dn.length = i + i from hdn]
              have hii : ((i : Int) + (i : Int) == 2 * (i : Int)) = true := by simp; omega
              go_wp2_with fail
              go_ret
              exact ⟨rfl, h3.2.1⟩
end Go.Proofs.Ytdhcaelhjpgliaa
