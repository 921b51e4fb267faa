/- The walks of slices.Clone at entries, (*wset.Set).All, the law's own 'all'. -/
import Derived.Test.YtccioehckfdjdaaWget
namespace Go.Proofs.Ytccioehckfdjdaa
open Go.RowKit Go.Tum Go.Tum.W

theorem ents_one (l : List (Int × Int)) : ∀ u ∈ ents l, u.oneCell' = true := by
  intro u hu
  simp only [ents, List.mem_flatMap] at hu
  obtain ⟨e, _, he⟩ := hu
  simp at he
  rcases he with rfl | rfl <;> rfl

/-- A new row that holds the same. -/
def ClonePost (w : World) (base : Nat) (l : List (Int × Int)) (T : TypeId) (e : Ending) (w' : World) : Prop :=
  ∃ v, e = .returned v ∧ w'.ownsRow base T 2 v l.length (ents l) ∧ Fr [] w w' ∧ ∀ k, v.ownBlock = some k → w.heap.size ≤ k

set_option maxHeartbeats 400000 in
theorem clone_nil (base : Nat) (w : World) :
    Calls Try.prog 133 #[.slice none 0 0] w (ClonePost w base [] 136) := by
  have hk := fun (wx : World) => Lib.run_eql_slice_nil (P := Try.prog) wx 113 136 none 0 0 0 0 Try.underlying113
  go_enter Try.func133, Try.ntmps133
  go_wp2
  go_ret
  exact ⟨_, rfl, World.ownsRow_nil _ _ _ _, Fr.refl _ _, fun k e => by simp [Value.ownBlock] at e⟩

set_option maxHeartbeats 400000 in
theorem clone_some (base base' : Nat) (w : World) (g n c : Nat) (l : List (Int × Int)) (hn : n = l.length) (h : w.ownsRow base' 136 2 (.slice (some ⟨g, 0, none⟩) n c) n (ents l)) (hl : l.length ≤ 1000000) (hbase : base ≤ w.heap.size) :
    Calls Try.prog 133 #[.slice (some ⟨g, 0, none⟩) n c] w (ClonePost w base l 136) := by
  obtain ⟨j0, hj63, hy0, hy1, hy2⟩ := info_parts W_infoEntry
  have hk := fun (wx : World) => Lib.run_eql_slice_nil (P := Try.prog) wx 113 136 (some ⟨g, 0, none⟩) n c 0 0 Try.underlying113
  have hgl := (h.lt g rfl).2
  have HR : Hid ((w.alloc (.cells [].toArray 136)).ownsRow base 136 2 (.slice (some ⟨w.heap.size, 0, none⟩) 0 0) 0 []) :=
    World.ownsRow_made w #[] 0 hbase (by unfold maxLen; omega) (by simp)
  have H := Lib.hid h; clear h
  have HN := Lib.hid hn
  clear hn
  have hnn : n ≤ 1000000 := by rw [HN.out]; exact hl
  go_enter Try.func133, Try.ntmps133
  go_wp2_with (at_builtin; go_must (refine wpList_append_at _ rfl _ _ 113 rfl base 136 j0 _ 2 16 Try.underlying113 hj63 hy0 hy1 hy2 rfl (by decide) (.slice (some ⟨w.heap.size, 0, none⟩) 0 0) 0 [] rfl HR.out ⟨g, 0, none⟩ n c (ents l) rfl (by rw [HN.out]; exact ents_length l) ((H.out.alloc _).cells rfl) (ents_one l) (by unfold maxLen; omega) (by omega) (by simp; omega) (by simp) ?_))
  intro g2 c2 w2 hown hg2 hgg hc1 hc2
  go_wp2
  go_ret
  refine ⟨_, rfl, ?_, ((Fr.refl [] w).alloc (.cells #[] 136)).grown hg2 (fun k e => .inr (by simp [Value.ownBlock] at e; omega)), ?_⟩
  · rw [← HN.out]
    simpa using hown
  · intro k e
    simp [Value.ownBlock] at e hgg
    omega

theorem all_any (base b : Nat) (w : World) (fp : List Nat) (s : S) (h : IsSet w base b fp s) (hbase : base ≤ w.heap.size) :
    Calls Try.prog 112 #[.pointer (some ⟨b, 0, none⟩)] w (ClonePost w base s.list 136) := by
  obtain ⟨vl, vt, vd, m, tab, pos, h, rfl⟩ := h
  have hl1 : s.list.length ≤ 65536 := Nat.le_trans h.few h.room
  have h1 := h.blk.cell 1
  simp only [List.getElem?_cons_succ, List.getElem?_cons_zero] at h1
  have HC : Hid (Calls Try.prog 133 #[vl] w (ClonePost w base s.list 136)) := by
    rcases ownsRow_form h.rlist with ⟨rfl, h0⟩ | ⟨g, c, rfl, _⟩
    · have : s.list = [] := List.eq_nil_of_length_eq_zero h0
      rw [this]
      exact clone_nil base w
    · exact clone_some base base w g _ c s.list rfl h.rlist (by omega) hbase
  clear h
  go_enter Try.func112, Try.ntmps112
  go_wp2_with fail
  refine HC.out.mono ?_
  rintro e w' ⟨v, rfl, ho, hf, hk⟩
  go_wp2_with fail
  go_ret
  exact ⟨v, rfl, ho, hf, hk⟩

theorem W_infoREntry : (Try.prog.info? 177).map (fun i => (i.zero, i.size, i.bytes)) = some (some (.agg #[.int .i64 0, .int .u64 0]), 2, 16) := by kernel_rfl

/-- What 'all' hands back: up to 'most' entries, in new memory. -/
def AllRel (w : World) (base : Nat) (l : List (Int × Int)) (most : Int) (vc : Value) (g : Nat) (vo vi : Value) (wr : World) : Prop :=
  ∃ k : Nat, k ≤ l.length ∧ k + g = l.length ∧ vi = .int .i64 (k : Int) ∧ (k : Int) < most ∧ wr.ownsRow base 177 2 vo k (ents (l.take k)) ∧ (∃ la lc, vo = .slice (some la) k lc) ∧
    (∀ b, vo.ownBlock = some b → w.heap.size ≤ b) ∧ vc.ownBlock ≠ vo.ownBlock ∧ wr.ownsRow base 136 2 vc l.length (ents l) ∧ Fr [] w wr

end Go.Proofs.Ytccioehckfdjdaa
