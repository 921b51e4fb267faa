/- The walk of WsetKeeps. -/
import Derived.Test.YtdhcaelhjpgliaaKrel
namespace Go.Proofs.Ytdhcaelhjpgliaa
open Go.RowKit Go.Tum Go.Tum.W

theorem lawInt : Maps.Keyed Try.prog 3 := Maps.int_keyed Try.underlying3
theorem zeroU64 (w : World) : (zeroValue 30).run Try.prog w = .ok (.int .u64 0) w := by kernel_rfl

set_option maxHeartbeats 4000000 in
set_option maxRecDepth 100000 in
theorem keeps_law (v : Value) (L : List (Int × Int)) (w : World) (ha : ArgRow w v L) (hwf : ∀ e ∈ L, (Lit.int .i64 e.1).wf = true ∧ (Lit.int .u64 e.2).wf = true) (_ : L.length ≤ maxLen) :
    Calls Try.prog 5 #[v] w fun e w' => e = .returned (.bool true) ∧ Fr [] w w' := by
  have hmm := @run_makeMap Try.prog
  obtain ⟨i0, hi0, hz0, hz1, hz2⟩ := info_parts W_infoInt
  obtain ⟨aa, ca, rfl⟩ := ha.len
  have HA := Lib.hid ha
  have HWF := Lib.hid hwf
  clear ha hwf
  by_cases h1 : 60 < L.length
  · have h1i : (60 : Int) < (L.length : Int) := by omega
    go_enter Try.func5, Try.ntmps5
    go_wp2_with fail
    refine (alive_any w).mono ?_
    rintro e w1 ⟨rfl, hf1⟩
    go_wp2_with fail
    go_ret
    exact ⟨rfl, hf1⟩
  have h1i : (L.length : Int) ≤ 60 := by omega
  go_enter Try.func5, Try.ntmps5
  go_wp2_with fail
  refine (alive_any w).mono ?_
  rintro e w1 ⟨rfl, hf1⟩
  go_wp2_with fail
  refine (live_new hf1 L.length).mono ?_
  rintro e w2 ⟨b, fp, rfl, hx, _, _⟩
  have er2 : roomOf (L.length : Int) = L.length := by unfold roomOf; omega
  rw [er2] at hx
  have HX := Lib.hid hx
  clear hx hf1 er2
  generalize hS0 : (⟨L.length, [], []⟩ : S) = s0 at *
  have hs0 : s0.done.length = 0 ∧ s0.room = L.length ∧ s0.list = [] := by rw [← hS0]; exact ⟨rfl, rfl, rfl⟩
  have hM0 : KR w ((w2.alloc (.map #[] 0)).alloc (.cells #[] 3)) b fp s0 w2.heap.size 0 (.map []) (.slice (some ⟨w2.heap.size + 1, 0, none⟩) 0 0) [] := by
    have l1 := fun k hk => (HX.out.1.lt k hk).2
    have f : Fr [] w2 ((w2.alloc (.map #[] 0)).alloc (.cells #[] 3)) := ((Fr.refl _ _).alloc _).alloc _
    refine ⟨HX.out.fr0 f, (World.ownsMap_made _ _ _ _).alloc _, HX.out.2.1.size, fun h => by have := l1 _ h; omega, ?_, fun k e => ?_⟩
    · have := World.ownsRow_made (e := 3) (size := 1) (w2.alloc (.map #[] 0)) #[] 0 (base := w.heap.size) (by have := HX.out.2.1.size; simp; omega) (by unfold maxLen; omega) (by simp)
      simpa using this
    · simp [Value.ownBlock] at e
      subst e
      exact ⟨fun h => by have := l1 _ h; omega, by omega⟩
  have hI0 : W.MapIs (.map []) s0 := by rw [← hS0]; exact mapIs_nil _
  have HM := Lib.hid hM0; have HI := Lib.hid hI0
  clear hM0 hI0 HX
  have HS0 := Lib.hid hS0; clear hS0
  go_wp2_with fail
  go_loopg [5, 27] L.length (fun g vo vi wr => ∃ k, g + k = L.length ∧ vi = .int .i64 (k : Int) ∧ ∃ fp D, KR w wr b fp (W.puts s0 (L.take k)) w2.heap.size k D vo ((W.puts s0 (L.take k)).list.map (·.1)) ∧ W.MapIs D (W.puts s0 (L.take k)))
  case atStart => exact ⟨0, by omega, rfl, fp, _, by simpa [W.puts, hs0.2.2] using HM.out, HI.out⟩
  case round =>
    clear HM HI
    obtain ⟨k, hg, rfl, fp, D, h, hi⟩ := hrel
    by_cases hk : k < L.length
    · have hki : (k : Int) < (L.length : Int) := by omega
      obtain ⟨x, rfl, hx, c1, c2⟩ := (HA.out.fr h.x.2.1).at hk
      have hok := puts_ok (L.take k) s0 (by rw [List.length_take, hs0.2.2, hs0.2.1]; simp; omega)
      rw [List.length_take, Nat.min_eq_left (by omega), hs0.2.2, hs0.1, List.length_nil] at hok
      have hrm := puts_room (L.take k) s0
      rw [hs0.2.1] at hrm
      have hst := puts_step s0 L hk
      obtain ⟨hp0, _, _, hp3, _⟩ := put_ok (s := W.puts s0 (L.take k)) (by omega) L[k].1 L[k].2
      have hi2 := hi.put h.m.isMap (by omega) L[k].1 L[k].2
      have hh := (hi L[k].1).1
      have hwk := HWF.out L[k] (List.getElem_mem hk)
      have hkey : keyOf Try.prog 3 (.int .i64 L[k].1) = some (.int .i64 L[k].1) := Maps.keyOf_int_mk Try.underlying3 hwk.1
      have hks : ((W.puts s0 (L.take k)).list.map (·.1)).length = (W.puts s0 (L.take k)).list.length := by simp
      have HK := Lib.hid (h.fr0 ((Fr.refl [] _).alloc (.cells #[.int .i64 L[k].1, .int .u64 L[k].2] 51)))
      have HST := Lib.hid hst; have HP0 := Lib.hid hp0; have HP3 := Lib.hid hp3; have HI2 := Lib.hid hi2; have HH := Lib.hid hh; have HKEY := Lib.hid hkey; have HWK := Lib.hid hwk.2
      have hbx := (Blk.new wr 51 [.int .i64 L[k].1, .int .u64 L[k].2])
      have HBX := Lib.hid hbx
      have hb1 : wr.heap.size ∉ fp := fun h1 => by have := (h.x.1.lt _ h1).2; omega
      have hb2 : w2.heap.size ≠ wr.heap.size := by have := h.m.lt; omega
      obtain ⟨la, lc, rfl⟩ := ownsRow_any h.o
      have hb3 : ∀ q, (Value.slice la ((W.puts s0 (L.take k)).list.map (·.1)).length lc).ownBlock = some q → q ≠ wr.heap.size := fun q e => by have := (World.ownsRow.lt h.o q e).2; omega
      rw [hks] at HK hb3 ⊢
      clear h hi hst hp0 hp3 hi2 hh hwk hkey hks hbx
      generalize (W.puts s0 (L.take k)).list.map (·.1) = ks at *
      generalize W.puts s0 (L.take k) = s at *
      generalize L[k].1 = a at *
      generalize L[k].2 = v at *
      go_wp2_with fail
      refine (live_put HK.out.x (by omega) _ _).mono ?_
      rintro e w4 ⟨rfl, fp4, hx4, hf4, hn4⟩
      rw [HP0.out]
      have HK4 := Lib.hid (HK.out.turn hx4 hf4 hn4)
      have hbx := HBX.out.fr hf4 hb1
      have b0 := hbx.cell 0
      have b1 := hbx.cell 1
      simp only [List.getElem?_cons_zero, List.getElem?_cons_succ] at b0 b1
      have hbl := hbx.lt
      have HBX4 := Lib.hid hbx
      clear hbx hf4 hn4 hx4 HK HBX c1 c2 hx
      cases hfl : (W.get s a).2 with
      | true =>
        rw [hfl] at HH HP3
        have hhas : Maps.has D (.int .i64 a) = true := HH.out
        clear hfl
        go_wp2_with (first
          | (at_lookup; go_must (refine wpList_lookup_own_ok_int _ rfl _ _ 54 rfl 3 30 .u64 lawInt Try.underlying54 Try.underlying30 (zeroU64 _) w2.heap.size k D rfl HK4.out.m _ _ rfl HKEY.out ?_); intro c hat hwc)
          | (at_mapUpdate; go_must (refine wpList_mapUpdate_own _ rfl _ _ _ 54 rfl 3 30 lawInt Try.underlying54 _ w2.heap.size k D rfl HK4.out.m (by unfold maxLen; omega) _ _ _ rfl rfl HKEY.out _ [] (plainElem_int Try.underlying30 HWK.out) ?_); intro w5 hown1 hgrow1))
        have HK5 := Lib.hid (HK4.out.store hown1 hgrow1)
        clear hown1 hgrow1 HK4
        go_roundg (L.length - (k + 1))
        case measure => omega
        case rel => exact ⟨k + 1, by omega, rfl, fp4, _, by rw [HST.out, HP3.out]; simpa using HK5.out, by rw [HST.out]; exact HI2.out⟩
      | false =>
        rw [hfl] at HH HP3
        have hhas : Maps.has D (.int .i64 a) = false := HH.out
        clear hfl
        have hbs := HK4.out.x.2.1.size
        have hkl : ks.length = s.list.length := by
          have := HK4.out.o
          obtain ⟨_, _, e⟩ := ownsRow_any this
          simp only [Value.slice.injEq] at e
          exact e.2.1.symm
        have ho4 := HK4.out.o
        rw [hkl] at ho4
        have HO4 := Lib.hid ho4
        have HKL := Lib.hid hkl
        clear hkl ho4
        have HK4a := Lib.hid (HK4.out.fr0 ((Fr.refl [] _).alloc (.cells #[.int .i64 a] 3)))
        go_wp2_with (first
          | (at_lookup; go_must (refine wpList_lookup_own_ok_int _ rfl _ _ 54 rfl 3 30 .u64 lawInt Try.underlying54 Try.underlying30 (zeroU64 _) w2.heap.size k D rfl HK4.out.m _ _ rfl HKEY.out ?_); intro c hat hwc)
          | (at_mapUpdate; go_must (refine wpList_mapUpdate_own _ rfl _ _ _ 54 rfl 3 30 lawInt Try.underlying54 _ w2.heap.size k D rfl HK5.out.m (by unfold maxLen; omega) _ _ _ rfl rfl HKEY.out _ [] (plainElem_int Try.underlying30 HWK.out) ?_); intro w6 hown1 hgrow1)
          | (at_builtin; go_must (refine wpList_push _ rfl _ _ 44 rfl w.heap.size 3 i0 _ 1 8 Try.underlying44 hi0 hz0 hz1 hz2 rfl (by decide) (.slice la s.list.length lc) s.list.length _ rfl HO4.out [.int .i64 a] _ _ rfl (by simp) rfl (by simp [Value.oneCell']) (by unfold maxLen; omega) (by omega) hbs ?_)
             intro g2 c2' w5 hown hg2 hgg hc1 hc2'
             have HK5 := Lib.hid (HK4a.out.push hown (by rw [HKL.out]) hg2 (by simpa using hgg))
             have hbx5 := (HBX4.out.alloc (.cells #[.int .i64 a] 3)).grown hg2 (fun e => hb3 _ e.symm rfl)
             have d0 := hbx5.cell 0
             have d1 := hbx5.cell 1
             simp only [List.getElem?_cons_zero, List.getElem?_cons_succ] at d0 d1
             clear hbx5 hown hg2 hgg HK4a))
        have HK6 := Lib.hid (HK5.out.store hown1 hgrow1)
        clear hown1 hgrow1 HK5 d0 d1
        go_roundg (L.length - (k + 1))
        case measure => omega
        case rel => exact ⟨k + 1, by omega, rfl, fp4, _, by rw [HST.out, HP3.out]; simpa using HK6.out, by rw [HST.out]; exact HI2.out⟩
    · have hk1 : k = L.length := by omega
      have hok := puts_ok L s0 (by rw [hs0.2.2, hs0.2.1]; simp)
      rw [hs0.2.2, hs0.1, List.length_nil] at hok
      have hrm := puts_room L s0
      rw [hs0.2.1] at hrm
      rw [List.take_of_length_le (by omega)] at h hi
      subst hk1
      have hks : ((W.puts s0 L).list.map (·.1)).length = (W.puts s0 L).list.length := by simp
      obtain ⟨la, lc, rfl⟩ := ownsRow_any h.o
      have hkat : ∀ j (hj : j < (W.puts s0 L).list.length), (((W.puts s0 L).list.map (·.1)).map (Value.int .i64))[j]? = some (.int .i64 (W.puts s0 L).list[j].1) := fun j hj => by simp [hj]
      have HKAT := Lib.hid hkat
      have hgt : ∀ j (hj : j < (W.puts s0 L).list.length), W.get (W.puts s0 L) (W.puts s0 L).list[j].1 = ((W.puts s0 L).list[j].2, true) := by rw [← HS0.out]; exact fun j hj => puts_get _ _ hj
      have HGT := Lib.hid hgt; clear hgt
      have hkl : ∀ e ∈ (W.puts s0 L).list, (Lit.int .i64 e.1).wf = true := by
        intro e he
        rcases puts_keys L s0 e.1 (List.mem_map_of_mem he) with h1 | h1
        · rw [hs0.2.2] at h1; cases h1
        · obtain ⟨e2, h2, h3⟩ := List.mem_map.1 h1
          rw [← h3]
          exact (HWF.out e2 h2).1
      have HK := Lib.hid h; have HI := Lib.hid hi
      rw [hks] at HK ⊢
      have HKS := Lib.hid hks
      clear h hi hg hkat hks
      generalize (W.puts s0 L).list.map (·.1) = ks at *
      generalize W.puts s0 L = s at *
      generalize gk = G at *
      go_wp2_with fail
      refine (live_all100 HK.out.x (by omega)).mono ?_
      rintro e w4 ⟨vg, rfl, hv, hf, hkk⟩
      obtain ⟨lg, gc, rfl⟩ := ownsRow_any hv
      have hvn : ∀ q, (Value.slice lg s.list.length gc).ownBlock = some q → q ∉ fp := fun q e h1 => by have := (HK.out.x.1.lt q h1).2; have := hkk q e; omega
      have HV := Lib.hid hv; have HK4 := Lib.hid (HK.out.fr0 hf)
      clear hv hf hkk HK
      have hne1 : ((s.list.length : Int) != (s.list.length : Int)) = false := by simp
      have hne2 : ((s.done.length : Int) != (L.length : Int)) = false := by simp; omega
      go_wp2_with fail
      refine (live_len HK4.out.x).mono ?_
      rintro e w5 ⟨rfl, rfl⟩
      go_wp2_with fail
      refine (live_mark HK4.out.x).mono ?_
      rintro e w5 ⟨rfl, rfl⟩
      go_wp2_with fail
      go_loopg [81] s.list.length (fun g vi wr => ∃ j, g + j = s.list.length ∧ vi = .int .i64 (j : Int) ∧ KR w wr b fp s w2.heap.size L.length D (.slice la s.list.length lc) ks ∧ Row wr w.heap.size (.slice lg s.list.length gc) s.list)
      case atStart => exact ⟨0, by omega, rfl, HK4.out, HV.out⟩
      case round =>
        clear HK4 HV
        obtain ⟨j, hg, rfl, h, hv⟩ := hrel
        by_cases hj : j < s.list.length
        · have hji : (j : Int) < (s.list.length : Int) := by omega
          have HH := Lib.hid h; have HV := Lib.hid hv
          obtain ⟨g, c, e, hgl, hgc⟩ := hv.form (by omega)
          simp only [Value.slice.injEq, true_and] at e
          obtain ⟨rfl, rfl⟩ := e
          have d1 := ownsRow_cell hv _ _ (ents_get s.list j hj).1
          have d2 := ownsRow_cell hv _ _ (ents_get s.list j hj).2
          have ho := h.o
          rw [HKS.out] at ho
          rcases ownsRow_form ho with ⟨_, e⟩ | ⟨g2, c2, e, hg2l, _⟩
          · omega
          simp only [Value.slice.injEq, true_and] at e
          obtain ⟨rfl, rfl⟩ := e
          have o1 := ownsRow_cell ho j _ (HKAT.out j hj)
          clear h hv ho
          have hgt := HGT.out j hj
          have hmi := (HI.out s.list[j].1).2
          rw [hgt] at hmi
          have hwk := hkl s.list[j] (List.getElem_mem hj)
          have hkey : keyOf Try.prog 3 (.int .i64 s.list[j].1) = some (.int .i64 s.list[j].1) := Maps.keyOf_int_mk Try.underlying3 hwk
          generalize s.list[j].1 = a at *
          generalize s.list[j].2 = v at *
          have HGT2 := Lib.hid hgt; have HMI := Lib.hid hmi; have HKEY := Lib.hid hkey
          clear hgt hmi hwk hkey
          go_wp2_with fail
          refine (live_get_to HH.out.x HGT2.out).mono ?_
          rintro e w5 ⟨rfl, n5, rfl⟩
          have HH5 := Lib.hid (HH.out.fr0 ((Fr.refl [] _).drewN n5)); have HV5 := Lib.hid (HV.out.fr ((Fr.refl [] _).drewN n5) (by simp))
          have d1' : (wr.drewN n5).cell? ⟨g, j * 2, none⟩ = some (.int .i64 a) := d1
          have d2' : (wr.drewN n5).cell? ⟨g, j * 2 + 1, none⟩ = some (.int .u64 v) := d2
          have hgl' : g < (wr.drewN n5).heap.size := hgl
          clear d1 d2 hgl o1 hg2l HH HV
          generalize wr.drewN n5 = W5 at *
          obtain ⟨c, hrun, hat, _⟩ := (HH5.out.m.drew).lookup_int lawInt Try.underlying54 Try.underlying30 (zeroU64 _) HKEY.out
          obtain rfl : v = c := by
            have := HMI.out.symm.trans hat
            simpa using this
          clear hat
          have hvv : (v != v) = false := by simp
          have haa : (a != a) = false := by simp
          go_wp2_with fail
          refine wp_region_fr [(1, [0, 1, 2, 3, 4, 5, 6, 7, 8, 9, 10, 11, 12, 13, 14]), (2, [15]), (0, [16, 17, 18, 20, 21, 19]), (3, [22]), (0, [23, 24, 25, 26, 27, 28])] [] (by kernel_rfl) (by kernel_rfl) ?_
          simp only [theOps, nthOp, List.map_cons, List.map_nil, Array.getD_eq_getD_getElem?, List.getElem?_toArray, List.getElem?_cons_succ, List.getElem?_cons_zero, Option.getD_some]
          repeat ((first | refine wpSegs_soft ?_ | refine wpSegs_pure ?_); (repeat (first | go_big_quiet_step (fail) | quiet_step (fail))); refine wpQuiet_nil ?_)
          refine wpSegs_keep ?_
          go_wp2_with fail
          refine ⟨⟨⟨_, (by exact ⟨rfl, rfl, rfl, Nat.le_refl _, fun _ _ _ => rfl⟩)⟩, rfl⟩, ?_⟩
          repeat ((first | refine wpSegs_soft ?_ | refine wpSegs_pure ?_); (repeat (first | go_big_quiet_step (fail) | quiet_step (fail))); refine wpQuiet_nil ?_)
          refine wpSegs_hard ?_
          go_wp2_with fail
          repeat ((first | refine wpSegs_soft ?_ | refine wpSegs_pure ?_); (repeat (first | go_big_quiet_step (fail) | quiet_step (fail))); refine wpQuiet_nil ?_)
          refine wpSegs_done ?_
          go_wp2_with fail
          go_roundg (s.list.length - (j + 1))
          case measure => omega
          case rel => exact ⟨j + 1, by omega, rfl, HH5.out.fr0 ((Fr.refl [] _).drew), HV5.out.fr ((Fr.refl [] _).drew) (by simp)⟩
        · go_wp2_with fail
          go_ret
          exact ⟨rfl, h.x.2.1⟩

theorem keeps_row (v : Value) (L : List (Int × Int)) (w : World) (h : ArgRow w v L ∧ ∀ e ∈ L, (Lit.int .i64 e.1).wf = true ∧ (Lit.int .u64 e.2).wf = true) (hm : L.length ≤ maxLen) :
    Calls Try.prog 5 #[v] w fun e w' => e = .returned (.bool true) ∧ Fr [] w w' := keeps_law v L w h.1 h.2 hm
end Go.Proofs.Ytdhcaelhjpgliaa
