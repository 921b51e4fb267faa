/- The walks of slices.Clone at entries, (*wset.Set).All, the law's own 'all'. -/
import Derived.Test.YtdhcaelhjpgliaaWget
namespace Go.Proofs.Ytdhcaelhjpgliaa
open Go.RowKit Go.Tum Go.Tum.W

theorem ents_one (l : List (Int × Int)) : ∀ u ∈ ents l, u.oneCell' = true := by
  intro u hu
  simp only [ents, List.mem_flatMap] at hu
  obtain ⟨e, _, he⟩ := hu
  simp at he
  rcases he with rfl | rfl <;> rfl

/-- A new row that holds the same. -/
def ClonePost (w : World) (base : Nat) (l : List (Int × Int)) (T : TypeId) (e : Ending) (w' : World) : Prop :=
  ∃ v, e = .returned v ∧ w'.ownsRow base T 2 v l.length (ents l) ∧ Fr [] w w' ∧ ∀ k, v.ownBlock = some k → w.heap.size ≤ k

set_option maxHeartbeats 400000 in
theorem clone_nil (base : Nat) (w : World) :
    Calls Try.prog 25 #[.slice none 0 0] w (ClonePost w base [] 51) := by
  have hk := fun (wx : World) => Lib.run_eql_slice_nil (P := Try.prog) wx 49 51 none 0 0 0 0 Try.underlying49
  go_enter Try.func25, Try.ntmps25
  go_wp2
  go_ret
  exact ⟨_, rfl, World.ownsRow_nil _ _ _ _, Fr.refl _ _, fun k e => by simp [Value.ownBlock] at e⟩

set_option maxHeartbeats 400000 in
theorem clone_some (base base' : Nat) (w : World) (g n c : Nat) (l : List (Int × Int)) (hn : n = l.length) (h : w.ownsRow base' 51 2 (.slice (some ⟨g, 0, none⟩) n c) n (ents l)) (hl : l.length ≤ 1000000) (hbase : base ≤ w.heap.size) :
    Calls Try.prog 25 #[.slice (some ⟨g, 0, none⟩) n c] w (ClonePost w base l 51) := by
  obtain ⟨j0, hj63, hy0, hy1, hy2⟩ := info_parts W_infoEntry
  have hk := fun (wx : World) => Lib.run_eql_slice_nil (P := Try.prog) wx 49 51 (some ⟨g, 0, none⟩) n c 0 0 Try.underlying49
  have hgl := (h.lt g rfl).2
  have HR : Hid ((w.alloc (.cells [].toArray 51)).ownsRow base 51 2 (.slice (some ⟨w.heap.size, 0, none⟩) 0 0) 0 []) :=
    World.ownsRow_made w #[] 0 hbase (by unfold maxLen; omega) (by simp)
  have H := Lib.hid h; clear h
  have HN := Lib.hid hn
  clear hn
  have hnn : n ≤ 1000000 := by rw [HN.out]; exact hl
  go_enter Try.func25, Try.ntmps25
  go_wp2_with (at_builtin; go_must (refine wpList_append_at _ rfl _ _ 49 rfl base 51 j0 _ 2 16 Try.underlying49 hj63 hy0 hy1 hy2 rfl (by decide) (.slice (some ⟨w.heap.size, 0, none⟩) 0 0) 0 [] rfl HR.out ⟨g, 0, none⟩ n c (ents l) rfl (by rw [HN.out]; exact ents_length l) ((H.out.alloc _).cells rfl) (ents_one l) (by unfold maxLen; omega) (by omega) (by simp; omega) (by simp) ?_))
  intro g2 c2 w2 hown hg2 hgg hc1 hc2
  go_wp2
  go_ret
  refine ⟨_, rfl, ?_, ((Fr.refl [] w).alloc (.cells #[] 51)).grown hg2 (fun k e => .inr (by simp [Value.ownBlock] at e; omega)), ?_⟩
  · rw [← HN.out]
    simpa using hown
  · intro k e
    simp [Value.ownBlock] at e hgg
    omega

theorem all_any (base b : Nat) (w : World) (fp : List Nat) (s : S) (h : IsSet w base b fp s) (hbase : base ≤ w.heap.size) :
    Calls Try.prog 24 #[.pointer (some ⟨b, 0, none⟩)] w (ClonePost w base s.list 51) := by
  obtain ⟨vl, vt, vd, m, tab, pos, h, rfl⟩ := h
  have hl1 : s.list.length ≤ 65536 := Nat.le_trans h.few h.room
  have h1 := h.blk.cell 1
  simp only [List.getElem?_cons_succ, List.getElem?_cons_zero] at h1
  have HC : Hid (Calls Try.prog 25 #[vl] w (ClonePost w base s.list 51)) := by
    rcases ownsRow_form h.rlist with ⟨rfl, h0⟩ | ⟨g, c, rfl, _⟩
    · have : s.list = [] := List.eq_nil_of_length_eq_zero h0
      rw [this]
      exact clone_nil base w
    · exact clone_some base base w g _ c s.list rfl h.rlist (by omega) hbase
  clear h
  go_enter Try.func24, Try.ntmps24
  go_wp2_with fail
  refine HC.out.mono ?_
  rintro e w' ⟨v, rfl, ho, hf, hk⟩
  go_wp2_with fail
  go_ret
  exact ⟨v, rfl, ho, hf, hk⟩

theorem W_infoREntry : (Try.prog.info? 52).map (fun i => (i.zero, i.size, i.bytes)) = some (some (.agg #[.int .i64 0, .int .u64 0]), 2, 16) := by kernel_rfl

/-- What 'all' hands back: up to 'most' entries, in new memory. -/
def AllRel (w : World) (base : Nat) (l : List (Int × Int)) (most : Int) (vc : Value) (g : Nat) (vo vi : Value) (wr : World) : Prop :=
  ∃ k : Nat, k ≤ l.length ∧ k + g = l.length ∧ vi = .int .i64 (k : Int) ∧ (k : Int) < most ∧ wr.ownsRow base 52 2 vo k (ents (l.take k)) ∧ (∃ la lc, vo = .slice (some la) k lc) ∧
    (∀ b, vo.ownBlock = some b → w.heap.size ≤ b) ∧ vc.ownBlock ≠ vo.ownBlock ∧ wr.ownsRow base 51 2 vc l.length (ents l) ∧ Fr [] w wr

set_option maxHeartbeats 1000000 in
theorem lawall_any (base b : Nat) (w : World) (fp : List Nat) (s : S) (most : Int) (h : IsSet w base b fp s) (hbase : base ≤ w.heap.size) :
    Calls Try.prog 20 #[.pointer (some ⟨b, 0, none⟩), .int .i64 most] w (ClonePost w base (s.list.take most.toNat) 52) := by
  by_cases hm : most ≤ 0
  · have e : s.list.take most.toNat = [] := by rw [show most.toNat = 0 from by omega]; rfl
    rw [e]
    go_enter Try.func20, Try.ntmps20
    go_wp2_with fail
    go_ret
    refine ⟨_, rfl, World.ownsRow_made w #[] 0 hbase (by unfold maxLen; omega) (by simp), (Fr.refl [] w).alloc _, fun k e => ?_⟩
    simp [Value.ownBlock] at e; omega
  · have hm1 : ∃ mo : Nat, most = mo := ⟨most.toNat, by omega⟩
    obtain ⟨mo, rfl⟩ := hm1
    rw [Int.toNat_natCast]
    obtain ⟨i0, hi0, hz0, hz1, hz2⟩ := info_parts W_infoREntry
    have hl1 : s.list.length ≤ 65536 := by
      obtain ⟨vl, vt, vd, m, tab, pos, h, rfl⟩ := h
      exact Nat.le_trans h.few h.room
    have H1 : Hid (IsSet (w.alloc (.cells #[] 52)) base b fp s) := h.fr ((Fr.refl [] w).alloc _) (fun _ _ => by simp)
    clear h
    go_enter Try.func20, Try.ntmps20
    go_wp2_with fail
    refine (all_any base b _ fp _ H1.out (by simp; omega)).mono ?_
    clear H1
    generalize hlist : s.list = l at *
    clear hlist
    rintro e w1 ⟨vc, rfl, hoc, hfc, hkc⟩
    obtain ⟨la, lc, rfl⟩ := ownsRow_any hoc
    have hout : w1.ownsRow base 52 2 (.slice (some ⟨w.heap.size, 0, none⟩) 0 0) 0 [] :=
      ownsRow_fr (World.ownsRow_made w #[] 0 hbase (by unfold maxLen; omega) (by simp)) hfc (fun _ _ => by simp)
    have hne : (Value.slice la l.length lc).ownBlock ≠ some w.heap.size := fun e => by have := hkc _ e; simp at this; omega
    have HI : Hid (AllRel w base l mo (.slice la l.length lc) l.length (.slice (some ⟨w.heap.size, 0, none⟩) 0 0) (.int .i64 0) w1) :=
      ⟨0, Nat.zero_le _, by omega, rfl, by omega, hout, ⟨_, _, rfl⟩, fun b e => by simp [Value.ownBlock] at e; omega, by simpa [Value.ownBlock] using hne, hoc, ((Fr.refl [] w).alloc _).trans hfc⟩
    clear hoc hfc hkc hout hne
    go_wp2_with fail
    go_loopg [5, 15] l.length (fun g vo vi wr => AllRel w base l mo (.slice la l.length lc) g vo vi wr)
    case atStart => exact HI.out
    case round =>
      obtain ⟨k, hk, hg, rfl, hkm, ho, ⟨oa, oc, rfl⟩, hob, hne, hoc, hfr⟩ := hrel
      by_cases hlt : k < l.length
      · obtain ⟨g, c, e, hgl, hgb, hlc⟩ : ∃ g c, Value.slice la l.length lc = .slice (some ⟨g, 0, none⟩) l.length c ∧ g < wr.heap.size ∧ base ≤ g ∧ l.length ≤ c := by
          rcases ownsRow_form hoc with ⟨_, h0⟩ | ⟨g, c, e, h1, h2, h3, h4⟩
          · omega
          · exact ⟨g, c, e, h1, h2, h3⟩
        simp only [Value.slice.injEq, true_and] at e
        obtain ⟨rfl, rfl⟩ := e
        have c1 := ownsRow_cell hoc _ _ (ents_get l k hlt).1
        have c2 := ownsRow_cell hoc _ _ (ents_get l k hlt).2
        have HO := Lib.hid ho; have HC := Lib.hid hoc; have HF := Lib.hid hfr; have HB := Lib.hid hob; have HNE := Lib.hid hne; have HG := Lib.hid hg
        clear ho hoc hfr hob hne hg
        generalize hx : l[k].1 = x at *
        generalize hy : l[k].2 = y at *
        have HX := Lib.hid hx; have HY := Lib.hid hy
        clear hx hy
        have HO2 : Hid ((wr.alloc (.cells #[.int .i64 x, .int .u64 y] 51)).ownsRow base 52 2 (.slice (some oa) k oc) k (ents (l.take k))) := HO.out.alloc _
        go_wp2_with (at_builtin; go_must (refine wpList_push _ rfl _ _ 26 rfl base 52 i0 _ 2 16 Try.underlying26 hi0 hz0 hz1 hz2 rfl (by decide) (.slice (some oa) k oc) k _ rfl HO2.out [.int .i64 x, .int .u64 y] _ _ rfl (by simp) rfl (by simp [Value.oneCell']) (by unfold maxLen; omega) (by omega) (by simp; omega) ?_))
        intro g2 c2' w2 hown hg2 hgg hc1 hc2'
        have htk : ents (l.take (k + 1)) = ents (l.take k) ++ [.int .i64 x, .int .u64 y] := by
          rw [List.take_succ_eq_append_getElem hlt, ents_append]
          simp [ents, HX.out, HY.out]
        rw [← htk] at hown
        have hfr2 : Fr [] w w2 := by
          have f1 := ((HF.out.alloc (.cells #[.int .i64 x, .int .u64 y] 51)).alloc (.cells #[.int .i64 x, .int .u64 y] 52))
          exact f1.grown hg2 (fun k e => .inr (HB.out k e))
        have hb2 : ∀ b, (Value.slice (some ⟨g2, 0, none⟩) (k + 1) c2').ownBlock = some b → w.heap.size ≤ b := by
          intro b e
          simp [Value.ownBlock] at e
          subst e
          rcases hgg with e1 | e1
          · exact HB.out _ e1
          · have := HF.out.size; omega
        have hne2 : (Value.slice (some ⟨g, 0, none⟩) l.length lc).ownBlock ≠ (Value.slice (some ⟨g2, 0, none⟩) (k + 1) c2').ownBlock := by
          intro e
          simp [Value.ownBlock] at e
          rcases hgg with e1 | e1
          · exact HNE.out (by rw [e1, e]; rfl)
          · omega
        have hc2 : w2.ownsRow base 51 2 (.slice (some ⟨g, 0, none⟩) l.length lc) l.length (ents l) :=
          ((HC.out.alloc (.cells #[.int .i64 x, .int .u64 y] 51)).alloc (.cells #[.int .i64 x, .int .u64 y] 52)).kept hg2 (.inr HNE.out)
        have HW := Lib.hid hown; have HFR := Lib.hid hfr2; have HB2 := Lib.hid hb2; have HNE2 := Lib.hid hne2; have HC2 := Lib.hid hc2
        clear hown hg2 hgg hfr2 hb2 hne2 hc2 htk
        by_cases hmo : k + 1 = mo
        · have hb1 : (((k : Int) + 1) == (mo : Int)) = true := by simp; omega
          have HM := Lib.hid hmo
          clear hmo
          go_wp2_with fail
          go_ret
          refine ⟨_, rfl, ?_, HFR.out, HB2.out⟩
          rw [← HM.out, List.length_take, Nat.min_eq_left hlt]
          exact HW.out
        · have hb1 : (((k : Int) + 1) == (mo : Int)) = false := by simp; omega
          have HM := Lib.hid hmo
          clear hmo
          go_wp2_with fail
          go_roundg (gk - 1)
          case measure => have := HG.out; omega
          case rel => exact ⟨k + 1, hlt, by have := HG.out; omega, by go_num, by have := HM.out; omega, HW.out, ⟨_, _, rfl⟩, HB2.out, HNE2.out, HC2.out, HFR.out⟩
      · obtain rfl : k = l.length := by omega
        have HO := Lib.hid ho; have HF := Lib.hid hfr; have HB := Lib.hid hob
        clear ho hoc hfr hob hne hg
        go_wp2_with fail
        go_ret
        refine ⟨_, rfl, ?_, HF.out, HB.out⟩
        have := HO.out
        rw [List.take_length] at this
        rw [List.take_of_length_le (by omega)]
        exact this
end Go.Proofs.Ytdhcaelhjpgliaa
