/- The walk of WsetMarks. -/
import Derived.Test.YtdhcaelhjpgliaaFmrel
namespace Go.Tum.W
/-- The set behind so many of three rows of puts. -/
def stage (s0 : S) (A B C : List (Int × Int)) : Nat → S
  | 0 => s0
  | 1 => puts s0 A
  | 2 => puts (puts s0 A) B
  | _ => puts (puts (puts s0 A) B) C
def stageMs (s0 : S) (A B C : List (Int × Int)) (k : Nat) : List Int := (List.range k).map fun i => ((stage s0 A B C i).done.length : Int)
def rowOf (A B C : List (Int × Int)) (k : Nat) : List (Int × Int) := if k = 0 then A else if k = 1 then B else C
theorem stage_step (s0 : S) (A B C : List (Int × Int)) {k : Nat} (hk : k < 3) : puts (stage s0 A B C k) (rowOf A B C k) = stage s0 A B C (k + 1) := by
  rcases (by omega : k = 0 ∨ k = 1 ∨ k = 2) with rfl | rfl | rfl <;> rfl
theorem stageMs_step (s0 : S) (A B C : List (Int × Int)) (k : Nat) : stageMs s0 A B C (k + 1) = stageMs s0 A B C k ++ [((stage s0 A B C k).done.length : Int)] := by
  simp [stageMs, List.range_succ]
theorem stage_done (s0 : S) (A B C : List (Int × Int)) (h0 : s0.done.length = 0) (hA : A.length ≤ 40) (hB : B.length ≤ 40) (hC : C.length ≤ 40) {k : Nat} (hk : k ≤ 3) : (stage s0 A B C k).done.length ≤ 40 * k := by
  have h1 := (puts_done A s0).2
  have h2 := (puts_done B (puts s0 A)).2
  have h3 := (puts_done C (puts (puts s0 A) B)).2
  rcases (by omega : k = 0 ∨ k = 1 ∨ k = 2 ∨ k = 3) with rfl | rfl | rfl | rfl <;> simp only [stage] <;> omega
theorem stage_room (s0 : S) (A B C : List (Int × Int)) (k : Nat) : (stage s0 A B C k).room = s0.room := by
  unfold stage; split <;> simp [puts_room]
end Go.Tum.W
namespace Go.Proofs.Ytdhcaelhjpgliaa
open Go.RowKit Go.Tum Go.Tum.W

theorem rowOf_at {w : World} {aa ab ac : Option Addr} {ca cb cc : Nat} {A B C : List (Int × Int)} (ha : ArgRow w (.slice aa A.length ca) A) (hb : ArgRow w (.slice ab B.length cb) B) (hc : ArgRow w (.slice ac C.length cc) C)
    {k : Nat} (hk : k < 3) : ∃ a c, [Value.slice aa A.length ca, .slice ab B.length cb, .slice ac C.length cc][k]? = some (.slice a (rowOf A B C k).length c) ∧ ArgRow w (.slice a (rowOf A B C k).length c) (rowOf A B C k) := by
  rcases (by omega : k = 0 ∨ k = 1 ∨ k = 2) with rfl | rfl | rfl
  · exact ⟨_, _, rfl, ha⟩
  · exact ⟨_, _, rfl, hb⟩
  · exact ⟨_, _, rfl, hc⟩

set_option maxHeartbeats 4000000 in
set_option maxRecDepth 100000 in
theorem marks_law (room : Int) (va vb vc : Value) (A B C : List (Int × Int)) (w : World) (ha : ArgRow w va A) (hb : ArgRow w vb B) (hc : ArgRow w vc C) (_ : A.length ≤ maxLen) (_ : B.length ≤ maxLen) (_ : C.length ≤ maxLen) :
    Calls Try.prog 7 #[.int .i64 room, va, vb, vc] w fun e w' => e = .returned (.bool true) ∧ Fr [] w w' := by
  obtain ⟨r, hr, er⟩ : ∃ r : Nat, r < 64 ∧ bits .and .i64 room 63 = (r : Int) := and_i64_low room 6 (by decide)
  obtain ⟨aa, ca, rfl⟩ := ha.len
  obtain ⟨ab, cb, rfl⟩ := hb.len
  obtain ⟨ac, cc, rfl⟩ := hc.len
  obtain ⟨i0, hi0, hz0, hz1, hz2⟩ := info_parts W_infoInt
  have HAT := Lib.hid (fun (k : Nat) (hk : k < 3) => rowOf_at ha hb hc hk)
  clear ha hb hc
  by_cases h1 : 40 < A.length
  · have h1i : (40 : Int) < (A.length : Int) := by omega
    go_enter Try.func7, Try.ntmps7
    go_wp2_with fail
    refine (alive_any w).mono ?_
    rintro e w1 ⟨rfl, hf1⟩
    go_wp2_with fail
    go_ret
    exact ⟨rfl, hf1⟩
  by_cases h2 : 40 < B.length
  · have h1i : (A.length : Int) ≤ 40 := by omega
    have h2i : (40 : Int) < (B.length : Int) := by omega
    go_enter Try.func7, Try.ntmps7
    go_wp2_with fail
    refine (alive_any w).mono ?_
    rintro e w1 ⟨rfl, hf1⟩
    go_wp2_with fail
    go_ret
    exact ⟨rfl, hf1⟩
  by_cases h3 : 40 < C.length
  · have h1i : (A.length : Int) ≤ 40 := by omega
    have h2i : (B.length : Int) ≤ 40 := by omega
    have h3i : (40 : Int) < (C.length : Int) := by omega
    go_enter Try.func7, Try.ntmps7
    go_wp2_with fail
    refine (alive_any w).mono ?_
    rintro e w1 ⟨rfl, hf1⟩
    go_wp2_with fail
    go_ret
    exact ⟨rfl, hf1⟩
  obtain ⟨hA, hB, hC⟩ : A.length ≤ 40 ∧ B.length ≤ 40 ∧ C.length ≤ 40 := by omega
  have h1i : (A.length : Int) ≤ 40 := by omega
  have h2i : (B.length : Int) ≤ 40 := by omega
  have h3i : (C.length : Int) ≤ 40 := by omega
  clear h1 h2 h3
  go_enter Try.func7, Try.ntmps7
  go_wp2_with fail
  refine (alive_any w).mono ?_
  rintro e w1 ⟨rfl, hf1⟩
  go_wp2_with fail
  refine (live_new hf1 r).mono ?_
  rintro e w2 ⟨bx, fx, rfl, hx, _, _⟩
  have er2 : roomOf (r : Int) = r := by unfold roomOf; omega
  rw [er2] at hx
  have HX := Lib.hid hx
  clear hx hf1
  go_wp2_with fail
  refine (live_new HX.out.2.1 r).mono ?_
  rintro e w3 ⟨bz, fy, rfl, hy, hf3, hfy⟩
  rw [er2] at hy
  have hxy : ∀ k ∈ fx, k ∉ fy := fun k h1 h2 => by have := (HX.out.1.lt k h1).2; have := hfy k h2; omega
  have hx := HX.out.fr0 hf3
  have HX3 := Lib.hid hx; have HY := Lib.hid hy; have HXY := Lib.hid hxy
  clear hx hy hxy hf3 hfy er er2 HX
  generalize hS0 : (⟨r, [], []⟩ : S) = s0 at *
  have hs0 : s0.done.length = 0 ∧ s0.room = r := by rw [← hS0]; exact ⟨rfl, rfl⟩
  have HS0 := Lib.hid hS0; clear hS0
  have hM0 : MR w ((w3.alloc (.cells #[] 3)).alloc (.cells #[.slice aa A.length ca, .slice ab B.length cb, .slice ac C.length cc] 49)) bx bz fx fy s0 s0 (.slice (some ⟨w3.heap.size, 0, none⟩) 0 0) [] (w3.heap.size + 1) [.slice aa A.length ca, .slice ab B.length cb, .slice ac C.length cc] := by
    have l1 := fun k hk => (HX3.out.1.lt k hk).2
    have l2 := fun k hk => (HY.out.1.lt k hk).2
    have f : Fr [] w3 ((w3.alloc (.cells #[] 3)).alloc (.cells #[.slice aa A.length ca, .slice ab B.length cb, .slice ac C.length cc] 49)) := ((Fr.refl _ _).alloc _).alloc _
    refine ⟨HX3.out.fr0 f, HY.out.fr0 f, HXY.out, ?_, fun h => by have := l1 _ h; omega, fun h => by have := l2 _ h; omega, ?_, ?_⟩
    · have := Blk.new (w3.alloc (.cells #[] 3)) 49 [.slice aa A.length ca, .slice ab B.length cb, .slice ac C.length cc]
      simpa using this
    · exact (World.ownsRow_made w3 #[] 0 HX3.out.2.1.size (by unfold maxLen; omega) (by simp)).alloc _
    · intro k e
      simp [Value.ownBlock] at e
      subst e
      exact ⟨fun h => by have := l1 _ h; omega, fun h => by have := l2 _ h; omega, by omega⟩
  have HM := Lib.hid hM0
  clear hM0 HX3 HY HXY
  go_wp2_with fail
  go_loopg [11, 43] 3 (fun g vm vi wr => ∃ k, g + k = 3 ∧ vi = .int .i64 (k : Int) ∧ ∃ fx fy, MR w wr bx bz fx fy (W.stage s0 A B C k) (W.stage s0 A B C k) vm (W.stageMs s0 A B C k) (w3.heap.size + 1) [.slice aa A.length ca, .slice ab B.length cb, .slice ac C.length cc])
  case atStart => exact ⟨0, rfl, rfl, fx, fy, HM.out⟩
  case round =>
    clear HM
    obtain ⟨k, hg, rfl, fx, fy, h⟩ := hrel
    by_cases hk : k < 3
    · have hki : (k : Int) < 3 := by omega
      obtain ⟨a, c, hcs, hra⟩ := HAT.out k hk
      have c0 := h.n.cell k
      rw [hcs] at c0
      have HR := Lib.hid hra
      have HH := Lib.hid h
      have hgl := h.n.lt
      clear h hra hcs
      generalize hgn : w3.heap.size + 1 = gn at *
      clear hgn
      go_wp2_with fail
      refine (live_mark HH.out.x).mono ?_
      rintro e w4 ⟨rfl, rfl⟩
      have hmd : W.stageMs s0 A B C (k + 1) = W.stageMs s0 A B C k ++ [((W.stage s0 A B C k).done.length : Int)] := stageMs_step s0 A B C k
      have HMD := Lib.hid hmd; clear hmd
      have hml : (W.stageMs s0 A B C k).length = k := by simp [stageMs]
      have HML := Lib.hid hml
      obtain ⟨la, lc, rfl⟩ := ownsRow_any HH.out.m
      have hm2 := HH.out.m
      have hbs := HH.out.x.2.1.size
      rw [hml] at hm2
      rw [hml] at HH
      rw [hml]
      clear hml
      have H2 := Lib.hid (HH.out.fr0 ((Fr.refl [] _).alloc (.cells #[.int .i64 ((W.stage s0 A B C k).done.length : Int)] 3)))
      have HO2 := Lib.hid hm2; clear hm2
      have hstep := stage_step s0 A B C hk
      have hd1 := stage_done s0 A B C hs0.1 hA hB hC (k := k) (by omega)
      have hrl : (rowOf A B C k).length ≤ 40 := by unfold rowOf; repeat' split
                                                   all_goals assumption
      have hrli : ((rowOf A B C k).length : Int) ≤ 40 := by omega
      have HSTEP := Lib.hid hstep; clear hstep
      generalize W.stageMs s0 A B C k = ms at *
      generalize W.stage s0 A B C k = s at *
      generalize rowOf A B C k = L at *
      generalize hmm : (s.done.length : Int) = mk at *
      clear hmm
      go_wp2_with (at_builtin; go_must (refine wpList_push _ rfl _ _ 44 rfl w.heap.size 3 i0 _ 1 8 Try.underlying44 hi0 hz0 hz1 hz2 rfl (by decide) (.slice la k lc) k _ rfl HO2.out [.int .i64 mk] _ _ rfl (by simp) rfl (by simp [Value.oneCell']) (by unfold maxLen; omega) (by omega) hbs ?_))
      intro g2 c2' w5 hown hg2 hgg hc1 hc2'
      have hM := H2.out.push hown (by rw [HML.out]) hg2 (by simpa using hgg)
      rw [← HMD.out] at hM
      have HM := Lib.hid hM
      have hd0 : k ≤ 2 := by omega
      clear hown hg2 hgg H2 HO2 HMD hM HH c0 hgl
      generalize hms : W.stageMs s0 A B C (k + 1) = ms' at *
      have HMS := Lib.hid hms; clear hms
      generalize gk = G at *
      go_wp2_with fail
      go_loopg [54] L.length (fun g vi wr => ∃ j, g + j = L.length ∧ vi = .int .i64 (j : Int) ∧ ∃ fx fy, MR w wr bx bz fx fy (W.puts s (L.take j)) (W.puts s (L.take j)) (.slice (some ⟨g2, 0, none⟩) (k + 1) c2') ms' gn [.slice aa A.length ca, .slice ab B.length cb, .slice ac C.length cc])
      case atStart => exact ⟨0, by omega, rfl, fx, fy, HM.out⟩
      case round =>
        clear HM
        obtain ⟨j, hg, rfl, fx, fy, h⟩ := hrel
        by_cases hj : j < L.length
        · have hji : (j : Int) < (L.length : Int) := by omega
          obtain ⟨x, rfl, hx, c1, c2⟩ := (HR.out.fr h.x.2.1).at hj
          have hdn := (puts_done (L.take j) s).2
          rw [List.length_take] at hdn
          have hst := puts_step s L hj
          have hb1 : wr.heap.size ∉ fx := fun h1 => by have := (h.x.1.lt _ h1).2; omega
          have H1 := Lib.hid (h.fr0 (((Fr.refl [] _).alloc (.cells #[.int .i64 L[j].1, .int .u64 L[j].2] 51)).drew))
          have HST := Lib.hid hst
          clear h hst
          generalize L[j].1 = a at *
          generalize L[j].2 = v at *
          generalize W.puts s (L.take j) = sj at *
          go_wp2_with fail
          refine wp_region_fr [(1, [0, 1, 2, 3, 4, 6, 7, 8, 9, 10]), (2, [5]), (3, [11]), (0, [12])] fx (by kernel_rfl) (by kernel_rfl) ?_
          simp only [theOps, nthOp, List.map_cons, List.map_nil, Array.getD_eq_getD_getElem?, List.getElem?_toArray, List.getElem?_cons_succ, List.getElem?_cons_zero, Option.getD_some]
          repeat ((first | refine wpSegs_soft ?_ | refine wpSegs_pure ?_); (repeat (first | go_big_quiet_step (fail) | quiet_step (fail))); refine wpQuiet_nil ?_)
          refine wpSegs_keep ?_
          go_wp2_with fail
          refine (live_put H1.out.x (by omega) _ _).mono ?_
          rintro e w6 ⟨rfl, fx', hx6, hf6, hn6⟩
          have h6 := Lib.hid (H1.out.turnx hx6 hf6 hn6)
          clear hx6
          go_wp2_with fail
          refine ⟨⟨⟨_, (by exact hf6)⟩, rfl⟩, ?_⟩
          refine wpSegs_hard ?_
          go_wp2_with fail
          refine (live_put h6.out.y (by omega) _ _).mono ?_
          rintro e w7 ⟨rfl, fy', hy7, hf7, hn7⟩
          have h7 := Lib.hid (h6.out.turny hy7 hf7 hn7)
          clear hy7 hf7 hn7 hf6 hn6 h6 H1
          have hne : ((W.put sj a v).2 != (W.put sj a v).2) = false := by simp
          go_wp2_with fail
          repeat ((first | refine wpSegs_soft ?_ | refine wpSegs_pure ?_); (repeat (first | go_big_quiet_step (fail) | quiet_step (fail))); refine wpQuiet_nil ?_)
          refine wpSegs_done ?_
          go_wp2_with fail
          go_roundg (L.length - (j + 1))
          case measure => omega
          case rel => exact ⟨j + 1, by omega, rfl, fx', fy', by rw [HST.out]; exact h7.out⟩
        · rw [List.take_of_length_le (by omega), HSTEP.out] at h
          have H1 := Lib.hid h
          clear h hg
          go_wp2_with fail
          go_roundg (3 - (k + 1))
          case measure => omega
          case rel => exact ⟨k + 1, by omega, rfl, fx, fy, by rw [HMS.out]; exact H1.out⟩
    · obtain rfl : k = 3 := by omega
      have hb1 : W.back (W.stage s0 A B C 3) ((W.stage s0 A B C 2).done.length : Int) = (W.stage s0 A B C 2, true) := back_puts _ C
      have hb2 : W.back (W.stage s0 A B C 2) ((W.stage s0 A B C 1).done.length : Int) = (W.stage s0 A B C 1, true) := back_puts _ B
      have hb3 : W.back (W.stage s0 A B C 3) ((W.stage s0 A B C 1).done.length : Int) = (W.stage s0 A B C 1, true) := by
        have := back_puts (W.puts s0 A) (B ++ C)
        rw [puts_app] at this
        exact this
      have hb4 : W.back (W.stage s0 A B C 1) 0 = (s0, true) := by
        have := back_puts s0 A
        rw [hs0.1] at this
        exact this
      have hb5 : W.back s0 1 = (s0, false) := by
        unfold W.back
        rw [if_pos (by omega)]
      have hd3 := stage_done s0 A B C hs0.1 hA hB hC (k := 3) (by omega)
      have hd2 := stage_done s0 A B C hs0.1 hA hB hC (k := 2) (by omega)
      have hd1 := stage_done s0 A B C hs0.1 hA hB hC (k := 1) (by omega)
      have hr1 := stage_room s0 A B C 1
      have hms : W.stageMs s0 A B C 3 = [(s0.done.length : Int), ((W.stage s0 A B C 1).done.length : Int), ((W.stage s0 A B C 2).done.length : Int)] := rfl
      rw [hms] at h
      have B1 := Lib.hid hb1; have B2 := Lib.hid hb2; have B3 := Lib.hid hb3; have B4 := Lib.hid hb4; have B5 := Lib.hid hb5
      clear hb1 hb2 hb3 hb4 hb5 hms HAT
      generalize W.stage s0 A B C 3 = s3 at *
      generalize W.stage s0 A B C 2 = s2 at *
      generalize W.stage s0 A B C 1 = s1 at *
      generalize w3.heap.size + 1 = gn at *
      rcases ownsRow_form h.m with ⟨_, e⟩ | ⟨g, c, rfl, _⟩
      · cases e
      rw [show [(s0.done.length : Int), (s1.done.length : Int), (s2.done.length : Int)].length = 3 from rfl]
      have c2 := ownsRow_cell h.m 2 _ rfl
      have c1 := ownsRow_cell h.m 1 _ rfl
      have H := Lib.hid h
      clear h
      generalize gk = G at *
      go_wp2_with fail
      refine (live_back_to H.out.x B1.out (by omega)).mono ?_
      rintro e w4 ⟨rfl, hx4, hf4⟩
      have h4 := H.out.turnx hx4 hf4 (fun k hk => .inl hk)
      clear hx4 hf4 c1 c2 H
      have c1 := ownsRow_cell h4.m 1 _ rfl
      have H := Lib.hid h4; clear h4
      go_wp2_with fail
      refine (live_back_to H.out.x B2.out (by omega)).mono ?_
      rintro e w5 ⟨rfl, hx4, hf4⟩
      have h4 := H.out.turnx hx4 hf4 (fun k hk => .inl hk)
      clear hx4 hf4 c1 H
      have c1 := ownsRow_cell h4.m 1 _ rfl
      have H := Lib.hid h4; clear h4
      go_wp2_with fail
      refine (live_back_to H.out.y B3.out (by omega)).mono ?_
      rintro e w6 ⟨rfl, hx4, hf4⟩
      have h4 := H.out.turny hx4 hf4 (fun k hk => .inl hk)
      clear hx4 hf4 c1 H
      have H := Lib.hid h4; clear h4
      go_wp2_with fail
      refine (live_all100 H.out.x (by omega)).mono ?_
      rintro e w7 ⟨v7, rfl, hv7, hf7, _⟩
      have H7 := Lib.hid (H.out.fr0 hf7); have HV7 := Lib.hid hv7
      clear hv7 hf7 H
      go_wp2_with fail
      refine (live_all100 H7.out.y (by omega)).mono ?_
      rintro e w8 ⟨v8, rfl, hv8, hf8, _⟩
      have H8 := Lib.hid (H7.out.fr0 hf8); have HV8 := Lib.hid hv8; have HW7 := Lib.hid (HV7.out.fr hf8 (by simp))
      have hl8 := H8.out.x.room_le
      clear hv8 hf8 H7 HV7
      go_wp2_with fail
      refine (same_any _ _ _ _ _ _ _ HW7.out HV8.out (by omega) (by omega)).mono ?_
      rintro e w9 ⟨rfl, n9, rfl⟩
      rw [show (s1.list == s1.list) = true from by simp]
      have H9 := Lib.hid (H8.out.fr0 ((Fr.refl [] _).drewN n9))
      clear H8 HV8 HW7
      go_wp2_with fail
      refine (live_mark H9.out.x).mono ?_
      rintro e w10 ⟨rfl, rfl⟩
      go_wp2_with fail
      refine (live_mark H9.out.y).mono ?_
      rintro e w10 ⟨rfl, rfl⟩
      have hdd : ((s1.done.length : Int) != (s1.done.length : Int)) = false := by simp
      go_wp2_with fail
      refine (live_back_to H9.out.x B4.out (by omega)).mono ?_
      rintro e w10 ⟨rfl, hx4, hf4⟩
      have h4 := H9.out.turnx hx4 hf4 (fun k hk => .inl hk)
      have hs0l : s0.list = [] := by rw [← HS0.out]
      clear hx4 hf4 H9
      have H := Lib.hid h4; clear h4
      go_wp2_with fail
      refine (live_len H.out.x).mono ?_
      rintro e w11 ⟨rfl, rfl⟩
      rw [hs0l]
      go_wp2_with fail
      refine (live_mark H.out.x).mono ?_
      rintro e w11 ⟨rfl, rfl⟩
      rw [hs0.1]
      go_wp2_with fail
      refine (live_all H.out.x 9).mono ?_
      rintro e w11 ⟨v11, rfl, hv11, hf11, _⟩
      rw [hs0l] at hv11
      have H11 := Lib.hid (H.out.fr0 hf11)
      obtain ⟨la, lc, rfl⟩ := ownsRow_any hv11
      clear hf11 hv11 H
      rw [show (List.take (Int.toNat 9) ([] : List (Int × Int))).length = 0 from rfl]
      go_wp2_with fail
      refine (live_back_to H11.out.x B5.out (by omega)).mono ?_
      rintro e w12 ⟨rfl, hx4, hf4⟩
      go_wp2_with fail
      go_ret
      exact ⟨rfl, hx4.2.1⟩
end Go.Proofs.Ytdhcaelhjpgliaa
