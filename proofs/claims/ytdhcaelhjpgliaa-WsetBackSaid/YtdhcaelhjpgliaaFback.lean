/- The walk of WsetBack. -/
import Derived.Test.YtdhcaelhjpgliaaPuts
namespace Go.Proofs.Ytdhcaelhjpgliaa
open Go.RowKit Go.Tum Go.Tum.W

set_option maxHeartbeats 4000000 in
set_option maxRecDepth 100000 in
theorem back_law (room : Int) (va vb : Value) (A B : List (Int × Int)) (w : World) (ha : ArgRow w va A) (hb : ArgRow w vb B) (_ : A.length ≤ maxLen) (_ : B.length ≤ maxLen) :
    Calls Try.prog 4 #[.int .i64 room, va, vb] w fun e w' => e = .returned (.bool true) ∧ Fr [] w w' := by
  obtain ⟨r, hr, er⟩ : ∃ r : Nat, r < 64 ∧ bits .and .i64 room 63 = (r : Int) := and_i64_low room 6 (by decide)
  obtain ⟨aa, ca, rfl⟩ := ha.len
  obtain ⟨ab, cb, rfl⟩ := hb.len
  by_cases h1 : 40 < A.length
  · have h1i : (40 : Int) < (A.length : Int) := by omega
    have HA := Lib.hid ha; have HB := Lib.hid hb
    clear ha hb
    go_enter Try.func4, Try.ntmps4
    go_wp2_with fail
    refine (alive_any w).mono ?_
    rintro e w1 ⟨rfl, hf1⟩
    go_wp2_with fail
    go_ret
    exact ⟨rfl, hf1⟩
  by_cases h2 : 40 < B.length
  · have h1i : (A.length : Int) ≤ 40 := by omega
    have h2i : (40 : Int) < (B.length : Int) := by omega
    have HA := Lib.hid ha; have HB := Lib.hid hb
    clear ha hb
    go_enter Try.func4, Try.ntmps4
    go_wp2_with fail
    refine (alive_any w).mono ?_
    rintro e w1 ⟨rfl, hf1⟩
    go_wp2_with fail
    go_ret
    exact ⟨rfl, hf1⟩
  have h1i : (A.length : Int) ≤ 40 := by omega
  have h2i : (B.length : Int) ≤ 40 := by omega
  have HA := Lib.hid ha; have HB := Lib.hid hb
  clear ha hb
  go_enter Try.func4, Try.ntmps4
  go_wp2_with fail
  refine (alive_any w).mono ?_
  rintro e w1 ⟨rfl, hf1⟩
  go_wp2_with fail
  refine (live_new hf1 r).mono ?_
  rintro e w2 ⟨b, fp, rfl, h, _, _⟩
  have er2 : roomOf (r : Int) = r := by unfold roomOf; omega
  rw [er2] at h
  have H := Lib.hid h
  clear h er er2 hf1
  go_wp2_with fail
  generalize hS0 : (⟨r, [], []⟩ : S) = s0 at *
  have hs0 : s0.done.length = 0 ∧ s0.room = r := by rw [← hS0]; exact ⟨rfl, rfl⟩
  clear hS0
  go_loopg [39] A.length (fun g vi wr => ∃ k, g + k = A.length ∧ vi = .int .i64 (k : Int) ∧ ∃ fp, Live w wr b fp (W.puts s0 (A.take k)))
  case atStart => exact ⟨0, by omega, rfl, fp, H.out⟩
  case round =>
    obtain ⟨k, hg, rfl, fp, h⟩ := hrel
    by_cases hk : k < A.length
    · have hki : (k : Int) < (A.length : Int) := by omega
      obtain ⟨x, rfl, hx, c1, c2⟩ := (HA.out.fr h.2.1).at hk
      have hdn := (puts_done (A.take k) s0).2
      rw [List.length_take] at hdn
      have HH := Lib.hid h
      clear h
      go_wp2_with fail
      refine (live_put (HH.out.fr0 ((Fr.refl _ _).alloc _)) (by omega) _ _).mono ?_
      rintro e w3 ⟨rfl, fp3, h3, _, _⟩
      go_wp2_with fail
      go_roundg (A.length - (k + 1))
      case measure => omega
      case rel => exact ⟨k + 1, by omega, rfl, fp3, by rw [puts_step s0 A hk]; exact h3⟩
    · have hk1 : k = A.length := by omega
      rw [List.take_of_length_le (by omega)] at h
      subst hk1
      have hdA := (puts_done A s0).2
      have hrA := puts_room A s0
      generalize W.puts s0 A = sA at *
      have HH := Lib.hid h
      clear h hg
      generalize gk = G at *
      go_wp2_with fail
      refine (live_mark HH.out).mono ?_
      rintro e w3 ⟨rfl, rfl⟩
      go_wp2_with fail
      refine (live_all100 HH.out (by omega)).mono ?_
      rintro e w3 ⟨vw, rfl, hv, hf, hkk⟩
      have hside := Side.new HH.out hv hkk
      have h3 := HH.out.fr0 hf
      clear hv hf hkk HH H
      have HS := Lib.hid hside; have H := Lib.hid h3
      clear hside h3
      go_wp2_with fail
      go_loopg [56] B.length (fun g vi wr => ∃ k, g + k = B.length ∧ vi = .int .i64 (k : Int) ∧ ∃ fp, Live w wr b fp (W.puts sA (B.take k)) ∧ Side w wr fp vw sA.list)
      case atStart => exact ⟨0, by omega, rfl, fp, H.out, HS.out⟩
      case round =>
        obtain ⟨k, hg, rfl, fp, h, hs⟩ := hrel
        by_cases hk : k < B.length
        · have hki : (k : Int) < (B.length : Int) := by omega
          obtain ⟨x, rfl, hx, c1, c2⟩ := (HB.out.fr h.2.1).at hk
          have hdn := (puts_done (B.take k) sA).2
          rw [List.length_take] at hdn
          have HH := Lib.hid h; have HSS := Lib.hid hs
          clear h hs
          go_wp2_with fail
          refine (live_put (HH.out.fr0 ((Fr.refl _ _).alloc _)) (by omega) _ _).mono ?_
          rintro e w3 ⟨rfl, fp3, h3, hf3, hn3⟩
          have hs3 := (HSS.out.fr0 ((Fr.refl _ _).alloc (.cells #[.int .i64 B[k].1, .int .u64 B[k].2] 51))).step hf3 hn3
          go_wp2_with fail
          go_roundg (B.length - (k + 1))
          case measure => omega
          case rel => exact ⟨k + 1, by omega, rfl, fp3, by rw [puts_step sA B hk]; exact h3, hs3⟩
        · have hk1 : k = B.length := by omega
          rw [List.take_of_length_le (by omega)] at h
          subst hk1
          have hback := back_puts sA B
          have hdB := (puts_done B sA).2
          have hrB := puts_room B sA
          generalize hsB : W.puts sA B = sB at *
          have HSB := Lib.hid hsB; have HBK := Lib.hid hback
          have HH := Lib.hid h; have HSS := Lib.hid hs
          clear h hs hg hsB hback HS H
          generalize gk = G at *
          go_wp2_with fail
          refine (live_all100 HH.out (by omega)).mono ?_
          rintro e w3 ⟨vq, rfl, hv, hf, hkk⟩
          have hside := Side.new HH.out hv hkk
          have h3 := HH.out.fr0 hf
          have h4 := HSS.out.fr0 hf
          clear hv hf hkk HH HSS
          have HS := Lib.hid hside; have H := Lib.hid h3; have HW := Lib.hid h4
          clear hside h3 h4
          go_wp2_with fail
          refine (live_back_to H.out HBK.out (by omega)).mono ?_
          rintro e w4 ⟨rfl, h4, hf4⟩
          have hs4 := HS.out.step hf4 (fun k hk => .inl hk)
          have hw4 := HW.out.step hf4 (fun k hk => .inl hk)
          have HH := Lib.hid h4; have HSS := Lib.hid hs4; have HWW := Lib.hid hw4
          clear h4 hs4 hw4 hf4 HS H HW
          go_wp2_with fail
          refine (live_mark HH.out).mono ?_
          rintro e w3 ⟨rfl, rfl⟩
          go_wp2_with fail
          refine (live_all100 HH.out (by omega)).mono ?_
          rintro e w5 ⟨vx, rfl, hv, hf, hkk⟩
          have h5 := HH.out.fr0 hf
          have hs5 := HSS.out.fr0 hf
          have hw5 := HWW.out.fr0 hf
          have hl5 := h5.room_le
          have HH5 := Lib.hid h5; have HS := Lib.hid hs5; have HW := Lib.hid hw5; have HV := Lib.hid hv
          clear h5 hs5 hw5 hf hkk HH HSS HWW hv
          go_wp2_with fail
          refine (same_any _ _ _ _ _ _ _ HV.out HW.out.1 (by omega) (by omega)).mono ?_
          rintro e w6 ⟨rfl, n6, rfl⟩
          rw [show (sA.list == sA.list) = true from by simp]
          have h6 := HH5.out.drewN n6
          have hs6 := HS.out.fr0 ((Fr.refl [] _).drewN n6)
          have hw6 := HW.out.fr0 ((Fr.refl [] _).drewN n6)
          clear HH5 HS HW HV
          have H := Lib.hid h6; have HS := Lib.hid hs6; have HW := Lib.hid hw6
          clear h6 hs6 hw6
          go_wp2_with fail
          go_loopg [88] B.length (fun g vi wr => ∃ k, g + k = B.length ∧ vi = .int .i64 (k : Int) ∧ Live w wr b fp sA ∧ Side w wr fp vw sA.list ∧ Side w wr fp vq sB.list)
          case atStart => exact ⟨0, by omega, rfl, H.out, HW.out, HS.out⟩
          case round =>
            clear H HW HS
            obtain ⟨k, hg, rfl, h, hs, hw⟩ := hrel
            by_cases hk : k < B.length
            · have hki : (k : Int) < (B.length : Int) := by omega
              obtain ⟨x, rfl, hx, c1, c2⟩ := (HB.out.fr h.2.1).at hk
              have HH := Lib.hid (h.fr0 ((Fr.refl [] _).alloc (.cells #[.int .i64 B[k].1, .int .u64 B[k].2] 51))); have HS := Lib.hid (hs.fr0 ((Fr.refl [] _).alloc (.cells #[.int .i64 B[k].1, .int .u64 B[k].2] 51))); have HW := Lib.hid (hw.fr0 ((Fr.refl [] _).alloc (.cells #[.int .i64 B[k].1, .int .u64 B[k].2] 51)))
              clear h hs hw
              go_wp2_with fail
              refine (live_get HH.out _).mono ?_
              rintro e w7 ⟨rfl, n7, rfl⟩
              obtain ⟨la, lc, rfl⟩ := ownsRow_any HS.out.1
              have hbx := ((Blk.new wr 51 [.int .i64 B[k].1, .int .u64 B[k].2]).drewN n7)
              have hh1 := (get_has sA B[k].1)
              have HH1 := Lib.hid hh1; clear hh1
              have hbl := hbx.lt
              have H := Lib.hid (HH.out.drewN n7); have HS1 := Lib.hid (HS.out.fr0 ((Fr.refl [] _).drewN n7)); have HW1 := Lib.hid (HW.out.fr0 ((Fr.refl [] _).drewN n7))
              clear HH HS HW c1 c2 hx
              generalize B[k].1 = a at *
              generalize B[k].2 = v at *
              generalize hbk : wr.heap.size = bx at *
              clear hbk
              generalize (wr.alloc (.cells #[.int .i64 a, .int .u64 v] 51)).drewN n7 = W1 at *
              have HBX := Lib.hid hbx; clear hbx
              generalize (W.get sA a).1 = V at *
              generalize (W.get sA a).2 = F at *
              generalize sA.list = l at *
              generalize gk = G2 at *
              go_wp2_with fail
              go_loopg [19, 101] l.length (fun g vf vi wr => ∃ j, g + j = l.length ∧ vi = .int .i64 (j : Int) ∧ vf = .bool (W.has (l.take j) a V) ∧ Fr [] W1 wr)
              case atStart => exact ⟨0, by omega, rfl, rfl, Fr.refl _ _⟩
              case round =>
                obtain ⟨j, hg, rfl, rfl, hf⟩ := hrel
                by_cases hj : j < l.length
                · have hji : (j : Int) < (l.length : Int) := by omega
                  have HF := Lib.hid hf
                  have hbx := HBX.out.fr hf (by simp)
                  have hr1 := (HS1.out.fr0 hf).1
                  clear hf
                  obtain ⟨g, c, e, hgl, hgc⟩ := hr1.form (by omega)
                  simp only [Value.slice.injEq, true_and] at e
                  obtain ⟨rfl, rfl⟩ := e
                  have d1 := ownsRow_cell hr1 _ _ (ents_get l j hj).1
                  have d2 := ownsRow_cell hr1 _ _ (ents_get l j hj).2
                  have b0 := hbx.cell 0
                  simp only [List.getElem?_cons_zero] at b0
                  have hbl2 := hbx.lt
                  clear hr1 hbx
                  have hht := has_take l a V hj
                  cases hfl : W.has (l.take j) a V with
                  | true =>
                    rw [hfl] at hht
                    have HT := Lib.hid hht; clear hht hfl
                    go_wp2_with fail
                    go_roundg (l.length - (j + 1))
                    case measure => omega
                    case rel => exact ⟨j + 1, by omega, rfl, by rw [HT.out]; rfl, HF.out.alloc _⟩
                  | false =>
                    rw [hfl] at hht
                    by_cases he : l[j].1 = a
                    · have heb : (l[j].1 == a) = true := by simp [he]
                      rw [heb] at hht
                      have HT := Lib.hid hht; have HE := Lib.hid he; clear hht hfl he
                      go_wp2_with fail
                      go_roundg (l.length - (j + 1))
                      case measure => omega
                      case rel => exact ⟨j + 1, by omega, rfl, by rw [HT.out]; rfl, HF.out.alloc _⟩
                    · have heb : (l[j].1 == a) = false := by simp [he]
                      rw [heb] at hht
                      have HT := Lib.hid hht; have HE := Lib.hid he; clear hht hfl he
                      go_wp2_with fail
                      go_roundg (l.length - (j + 1))
                      case measure => omega
                      case rel => exact ⟨j + 1, by omega, rfl, by rw [HT.out]; rfl, HF.out.alloc _⟩
                · have hj1 : j = l.length := by omega
                  subst hj1
                  rw [List.take_of_length_le (Nat.le_refl _), HH1.out]
                  have hff : (F != F) = false := by simp
                  have h7 := H.out.fr0 hf
                  have hs7 := HS1.out.fr0 hf
                  have hw7 := HW1.out.fr0 hf
                  have X7 := Lib.hid h7; have Y7 := Lib.hid hs7; have Z7 := Lib.hid hw7
                  clear h7 hs7 hw7 hf hg
                  go_wp2_with fail
                  go_roundg (B.length - (k + 1))
                  case measure => omega
                  case rel => exact ⟨k + 1, by omega, rfl, X7.out, Y7.out, Z7.out⟩
            · have HH := Lib.hid h; have HS := Lib.hid hs; have HW := Lib.hid hw
              clear h hs hw hg
              generalize gk = G2 at *
              go_wp2_with fail
              go_loopg [126] B.length (fun g vi wr => ∃ k, g + k = B.length ∧ vi = .int .i64 (k : Int) ∧ ∃ fp, Live w wr b fp (W.puts sA (B.take k)) ∧ Side w wr fp vq sB.list)
              case atStart => exact ⟨0, by omega, rfl, fp, HH.out, HW.out⟩
              case round =>
                obtain ⟨k, hg, rfl, fp, h, hs⟩ := hrel
                by_cases hk : k < B.length
                · have hki : (k : Int) < (B.length : Int) := by omega
                  obtain ⟨x, rfl, hx, c1, c2⟩ := (HB.out.fr h.2.1).at hk
                  have hdn := (puts_done (B.take k) sA).2
                  rw [List.length_take] at hdn
                  have HH := Lib.hid h; have HSS := Lib.hid hs
                  clear h hs
                  go_wp2_with fail
                  refine (live_put (HH.out.fr0 ((Fr.refl _ _).alloc _)) (by omega) _ _).mono ?_
                  rintro e w3 ⟨rfl, fp3, h3, hf3, hn3⟩
                  have hs3 := (HSS.out.fr0 ((Fr.refl _ _).alloc (.cells #[.int .i64 B[k].1, .int .u64 B[k].2] 51))).step hf3 hn3
                  go_wp2_with fail
                  go_roundg (B.length - (k + 1))
                  case measure => omega
                  case rel => exact ⟨k + 1, by omega, rfl, fp3, by rw [puts_step sA B hk]; exact h3, hs3⟩
                · rw [List.take_of_length_le (by omega), HSB.out] at h
                  have HH := Lib.hid h; have HSS := Lib.hid hs
                  clear h hs hg
                  go_wp2_with fail
                  refine (live_all100 HH.out (by omega)).mono ?_
                  rintro e w5 ⟨vy, rfl, hv, hf, hkk⟩
                  have hs5 := HSS.out.fr0 hf
                  have h5 := HH.out.fr0 hf
                  have hl5 := h5.room_le
                  have HV := Lib.hid hv; have HSS5 := Lib.hid hs5; have HH5 := Lib.hid h5
                  clear hv hs5 h5 hf hkk
                  go_wp2_with fail
                  refine (same_any _ _ _ _ _ _ _ HV.out HSS5.out.1 (by omega) (by omega)).mono ?_
                  rintro e w6 ⟨rfl, n6, rfl⟩
                  rw [show (sB.list == sB.list) = true from by simp]
                  go_wp2_with fail
                  go_ret
                  exact ⟨rfl, (HH5.out.drewN n6).2.1⟩
end Go.Proofs.Ytdhcaelhjpgliaa
