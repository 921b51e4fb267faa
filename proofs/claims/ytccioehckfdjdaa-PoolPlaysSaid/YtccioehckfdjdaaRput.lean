/- The walk of the document's Put for layer 8. -/
import Derived.Test.YtccioehckfdjdaaRwalk
set_option linter.unusedVariables false
set_option linter.unusedSimpArgs false
namespace Go.Proofs.Ytccioehckfdjdaa
open Go.RowKit Go.Tum Go.Tum.W

def RPutPost (w : World) (base R : Nat) (sv : Value) (p : List (Int × Int)) (a v : Int) (e : Ending) (w' : World) : Prop :=
  ∃ sv', e = .returned (.tuple #[.agg #[.int .i64 R, sv'], .int .i64 (rput R p a v).2]) ∧ Fr [] w w' ∧ Row w' base sv' (rput R p a v).1 ∧ ∀ k, sv'.ownBlock = some k → sv.ownBlock = some k ∨ w.heap.size ≤ k

set_option maxHeartbeats 2000000 in
theorem rput_full (base R : Nat) (sv : Value) (p : List (Int × Int)) (a v : Int) (w : World) (h : Row w base sv p) (hp : p.length ≤ 1000000) (hbase : base ≤ w.heap.size) (hR : R ≤ 65536)
    (h1 : (rget p a).2 = false) (h2 : R ≤ p.length) (h3 : R ≤ (rall p).length) :
    Calls Try.prog 138 #[.agg #[.int .i64 R, sv], .int .i64 a, .int .u64 v] w (RPutPost w base R sv p a v) := by
  have e : rput R p a v = (p, 6) := by unfold rput; rw [if_pos ⟨h1, h2, h3⟩]
  unfold RPutPost
  rw [e]
  clear e
  obtain ⟨la, lc, rfl⟩ := ownsRow_any h
  have hlen := rallTo_length p p.length
  have hg1 : decide ((p.length : Int) ≥ (R : Int)) = true := by simp; omega
  have hg2 : decide (((rall p).length : Int) ≥ (R : Int)) = true := by simp; omega
  have hg3 : decide (R ≤ p.length) = true := by simp; omega
  have hg4 : decide (R ≤ (rall p).length) = true := by simp; omega
  have H := Lib.hid h; clear h
  have H3 := Lib.hid h3; clear h3
  have hrl : (rall p).length ≤ 1000000 := by unfold rall; omega
  clear hlen
  go_enter Try.func138, Try.ntmps138
  go_wp2_with fail
  refine (rget_any base R _ p a _ ((H.out.alloc _).alloc _) hp).mono ?_
  rintro e w2 ⟨rfl, hf⟩
  rw [h1]
  clear h1
  have B1 := ((Blk.new w 95 [.int .i64 R, .slice la p.length lc]).alloc (.cells #[.int .i64 0, .slice none 0 0] 95)).fr hf (by simp)
  have B2 := (Blk.new (w.alloc (.cells #[.int .i64 R, .slice la p.length lc] 95)) 95 [.int .i64 0, .slice none 0 0]).fr hf (by simp)
  have c0 := B1.cell 0
  have c1 := B1.cell 1
  have d0 := B2.cell 0
  have d1 := B2.cell 1
  have e0 := B2.froz 0
  have e1 := B2.froz 1
  have hl1 := B1.lt
  have hl2 := B2.lt
  simp only [List.getElem?_cons_succ, List.getElem?_cons_zero, World.size_alloc] at c0 c1 d0 d1 e0 e1 hl2
  have HB1 := Lib.hid B1; have HB2 := Lib.hid B2
  have HRow := Lib.hid (((H.out.alloc (.cells #[.int .i64 R, .slice la p.length lc] 95)).alloc (.cells #[.int .i64 0, .slice none 0 0] 95)).fr hf (fun _ _ => by simp))
  have HF := Lib.hid ((((Fr.refl [] w).alloc (.cells #[.int .i64 R, .slice la p.length lc] 95)).alloc (.cells #[.int .i64 0, .slice none 0 0] 95)).trans hf)
  clear B1 B2 hf
  go_wp2_with fail
  refine wp_region_fr [(1, [0, 1, 2, 3, 4, 5, 6, 7, 8, 9, 10, 11, 14, 15]), (2, [12]), (0, [13, 16, 17])] [] (by kernel_rfl) (by kernel_rfl) ?_
  simp only [theOps, nthOp, List.map_cons, List.map_nil, Array.getD_eq_getD_getElem?, List.getElem?_toArray, List.getElem?_cons_succ, List.getElem?_cons_zero, Option.getD_some]
  repeat ((first | refine wpSegs_soft ?_ | refine wpSegs_pure ?_ | refine wpSegs_here ?_); (repeat (first | go_big_quiet_step (fail) | quiet_step (fail))); refine wpQuiet_nil ?_)
  refine wpSegs_keep ?_
  go_wp2_with fail
  refine (rall_any base R _ p _ (HRow.out.fr ((Fr.refl [] _).drew) (by simp)) hp (by have := HF.out.size; simp; omega)).mono ?_
  rintro e w3 ⟨vr, rfl, hvr, hfr, _⟩
  obtain ⟨ra, rc, rfl⟩ := ownsRow_any hvr
  have HF3 := Lib.hid ((HF.out.drew).trans hfr)
  have hRow3 := Lib.hid (HRow.out.fr (((Fr.refl [] _).drew).trans hfr) (by simp))
  have hB1 := HB1.out.fr (((Fr.refl [] _).drew).trans hfr) (by simp)
  have hB2 := HB2.out.fr (((Fr.refl [] _).drew).trans hfr) (by simp)
  have f0 := hB1.cell 0
  have f1 := hB1.cell 1
  have g0 := hB2.froz 0
  have g1 := hB2.froz 1
  have x0 := hB2.cell 0
  have x1 := hB2.cell 1
  have hl3 := hB2.lt
  have hl4 := hB1.lt
  simp only [List.getElem?_cons_succ, List.getElem?_cons_zero, World.size_alloc] at f0 f1 g0 g1 x0 x1 hl3
  simp only [World.size_alloc] at hB2
  have HB3 := Lib.hid hB2
  clear hvr hB1 hB2 c0 c1 d0 d1 e0 e1 hl1 hl2
  go_wp2_with fail
  refine ⟨⟨⟨_, (by exact hfr)⟩, rfl⟩, ?_⟩
  repeat ((first | refine wpSegs_soft ?_ | refine wpSegs_pure ?_ | refine wpSegs_here ?_); (repeat (first | go_big_quiet_step (fail) | quiet_step (fail))); refine wpQuiet_nil ?_)
  refine wpSegs_done ?_
  go_wp2_with fail
  have hlt : ∀ k, (Value.slice la p.length lc).ownBlock = some k → k < w.heap.size := fun k e => (World.ownsRow.lt H.out k e).2
  have hb := (HB3.out.set 0 (.int .i64 R)).set 1 (.slice la p.length lc)
  have k0 := hb.cell 0
  have k1 := hb.cell 1
  simp only [List.set_cons_zero, List.set_cons_succ, List.getElem?_cons_succ, List.getElem?_cons_zero] at k0 k1
  exact bodyPost_ret (v := .tuple #[.agg #[.int .i64 R, .slice la p.length lc], .int .i64 6]) (by simp [results, Try.results138, go_sem, k0, k1]) rfl
    ⟨_, rfl, (HF3.out.setCell (.inr (Nat.le_succ _)) _).setCell (.inr (Nat.le_succ _)) _, ownsRow_setCell (ownsRow_setCell hRow3.out (fun e => Nat.lt_irrefl _ (Nat.lt_trans (Nat.lt_succ_self _) (hlt _ e))) _) (fun e => Nat.lt_irrefl _ (Nat.lt_trans (Nat.lt_succ_self _) (hlt _ e))) _, fun k e => .inl e⟩

set_option maxHeartbeats 4000000 in
theorem rput_ok (base R : Nat) (sv : Value) (p : List (Int × Int)) (a v : Int) (w : World) (h : Row w base sv p) (hp : p.length ≤ 1000000) (hbase : base ≤ w.heap.size)
    (hn : ¬ ((rget p a).2 = false ∧ R ≤ p.length ∧ R ≤ (rall p).length)) :
    Calls Try.prog 138 #[.agg #[.int .i64 R, sv], .int .i64 a, .int .u64 v] w (RPutPost w base R sv p a v) := by
  have e : rput R p a v = (p ++ [(a, v)], 0) := by unfold rput; rw [if_neg hn]
  unfold RPutPost
  rw [e]
  clear e
  obtain ⟨i0, hi0, hz0, hz1, hz2⟩ := info_parts W_infoREntry
  obtain ⟨la, lc, rfl⟩ := ownsRow_any h
  have H := Lib.hid h; clear h
  go_enter Try.func138, Try.ntmps138
  go_wp2_with fail
  refine (rget_any base R _ p a _ ((H.out.alloc _).alloc _) hp).mono ?_
  rintro e w2 ⟨rfl, hf⟩
  have B1 := ((Blk.new w 95 [.int .i64 R, .slice la p.length lc]).alloc (.cells #[.int .i64 0, .slice none 0 0] 95)).fr hf (by simp)
  have B2 := (Blk.new (w.alloc (.cells #[.int .i64 R, .slice la p.length lc] 95)) 95 [.int .i64 0, .slice none 0 0]).fr hf (by simp)
  have c0 := B1.cell 0
  have c1 := B1.cell 1
  have hl1 := B1.lt
  have hl2 := B2.lt
  simp only [List.getElem?_cons_succ, List.getElem?_cons_zero, World.size_alloc] at c0 c1 hl2
  have HB1 := Lib.hid B1; have HB2 := Lib.hid B2
  have HRow := Lib.hid (((H.out.alloc (.cells #[.int .i64 R, .slice la p.length lc] 95)).alloc (.cells #[.int .i64 0, .slice none 0 0] 95)).fr hf (fun _ _ => by simp))
  have HF := Lib.hid ((((Fr.refl [] w).alloc (.cells #[.int .i64 R, .slice la p.length lc] 95)).alloc (.cells #[.int .i64 0, .slice none 0 0] 95)).trans hf)
  clear B1 B2 hf
  go_wp2_with fail
  rename_i K hK K2 hK2
  have HK : ∀ (u8 u9 u10 u11 u12 u13 u14 u15 u16 u17 u18 u19 u20 u21 u22 u23 u24 u25 u26 u27 u28 u29 u30 u31 u32 u33 : Value) (W : World), Fr [] w2 W → K ⟨#[.agg #[.int .i64 R, .slice la p.length lc], .int .i64 a, .int .u64 v, .pointer (some ⟨w.heap.size, 0, none⟩), undef, undef, .pointer (some ⟨w.heap.size + 1, 0, none⟩), .int .i64 0, u8, u9, u10, u11, u12, u13, u14, u15, u16, u17, u18, u19, u20, u21, u22, u23, u24, u25, u26, u27, u28, u29, u30, u31, u32, u33, undef, undef, undef, undef, undef, undef, undef, undef, undef, undef, undef, undef, undef], []⟩ W := by
    intro u8 u9 u10 u11 u12 u13 u14 u15 u16 u17 u18 u19 u20 u21 u22 u23 u24 u25 u26 u27 u28 u29 u30 u31 u32 u33 W hf
    have B1 := HB1.out.fr hf (by simp)
    have B2 := HB2.out.fr hf (by simp)
    have c0 := B1.cell 0
    have c1 := B1.cell 1
    have hl1 := B1.lt
    have hl2 := B2.lt
    simp only [List.getElem?_cons_succ, List.getElem?_cons_zero, World.size_alloc] at c0 c1 hl2 B2
    have HB2' := Lib.hid B2
    have HR := Lib.hid (HRow.out.fr hf (by simp))
    have HFW := Lib.hid (HF.out.trans hf)
    have hbW : base ≤ W.heap.size := by have := HFW.out.size; omega
    have hpi : (p.length : Int) ≤ 1000000 := by omega
    clear B1 B2 hf
    refine hK _ _ ?_
    go_wp2_with fail
    refine step_start ([2, 5, 9, 10], [12]) [] (by kernel_rfl) ?_
    refine step_reads (N := 7) [0, 1, 3, 4, 6, 7, 8] (by kernel_rfl) ⟨⟨_, Fr.refl _ _⟩, rfl⟩ ?_
    simp only [theOps, nthOp, List.map_cons, List.map_nil, Array.getD_eq_getD_getElem?, List.getElem?_toArray, List.getElem?_cons_succ, List.getElem?_cons_zero, Option.getD_some]
    repeat (first | go_big_quiet_step (fail) | quiet_step (fail))
    refine wpQuiet_nil ?_
    refine step_two (N := 6) 2 9 (by kernel_rfl) rfl rfl ?_ ?_
    · go_wp2_with fail
      refine ⟨⟨⟨_, (by exact Fr.from_drew ((Fr.refl _ _).alloc _).drew)⟩, rfl⟩, ?_⟩
      refine step_two (N := 5) 5 9 (by kernel_rfl) rfl rfl ?_ ?_
      · have ho := World.ownsRow_made (e := 177) (size := 2) W #[] 0 hbW (by unfold maxLen; omega) (by simp)
        refine wpList_append_row _ rfl _ _ 93 rfl base 177 i0 _ 2 16 Try.underlying93 hi0 hz0 hz1 hz2 rfl (by decide) W.heap.size 0 0 [] rfl ho base 177 _ p.length (ents p) rfl ((HR.out.alloc _).fr ((Fr.refl [] _).drew) (by simp)) (ents_one p) (by unfold maxLen; omega) (by omega) (by simp; omega) ?_
        intro g c' w5 hown hg hgg hc1 hc2
        rw [Nat.zero_add, List.nil_append] at hown
        rw [Nat.zero_add] at hc1 ⊢
        have hf5 : Fr [] W w5 := (((Fr.refl [] W).alloc _).drew).grown hg (fun k e => .inr (by cases e; exact Nat.le_refl _))
        have hg5 : W.heap.size ≤ g := by
          rcases hgg with e | e
          · omega
          · have e2 : g = (W.alloc (.cells #[] 177)).heap.size := e
            rw [World.size_alloc] at e2; omega
        simp only [Act.put, List.setIfInBounds_toArray, List.set_cons_zero, List.set_cons_succ]
        refine ⟨⟨⟨_, (by exact Fr.from_drew hf5)⟩, rfl⟩, ?_⟩
        refine step_keep (N := 4) 9 (by kernel_rfl) rfl ?_
        go_wp2_with fail
        refine ⟨⟨⟨_, (by exact Fr.from_drew (hf5.alloc _))⟩, rfl⟩, ?_⟩
        refine step_keep (N := 3) 10 (by kernel_rfl) rfl ?_
        refine wpList_push_blk _ rfl _ _ 93 rfl base 177 i0 _ 2 16 Try.underlying93 hi0 hz0 hz1 hz2 rfl (by decide) (.slice (some ⟨g, 0, none⟩) p.length c') p.length (ents p) rfl (hown.alloc _) [.int .i64 a, .int .u64 v] _ _ rfl (Blk.new _ _ _) rfl (by simp [Value.oneCell']) (by unfold maxLen; omega) (by omega) (by have := hf5.size; simp; omega) ?_
        intro g6 c6 w6 hown6 hg6 hgg6 hc1' hc2'
        have hf6 : Fr [] W w6 := (hf5.alloc (.cells #[.int .i64 a, .int .u64 v] 177)).grown hg6 (fun k e => .inr (by simp [Value.ownBlock] at e; omega))
        have hg7 : w.heap.size ≤ g6 := by
          rcases hgg6 with e | e
          · simp [Value.ownBlock] at e; omega
          · rw [e]; have := hf5.size; simp; omega
        simp only [Act.put, List.setIfInBounds_toArray, List.set_cons_zero, List.set_cons_succ]
        refine ⟨⟨⟨_, (by exact Fr.from_drew hf6)⟩, rfl⟩, ?_⟩
        refine step_pures (N := 2) [11] (by kernel_rfl) ?_
        simp only [theOps, nthOp, List.map_cons, List.map_nil, Array.getD_eq_getD_getElem?, List.getElem?_toArray, List.getElem?_cons_succ, List.getElem?_cons_zero, Option.getD_some]
        repeat (first | go_big_quiet_step (fail) | quiet_step (fail))
        refine wpQuiet_nil ?_
        have hb6 := HB2'.out.fr hf6 (by simp)
        have y0 := hb6.froz 0
        have y1 := hb6.froz 1
        have z0 := hb6.cell 0
        have z1 := hb6.cell 1
        have hl6 := hb6.lt
        simp only [List.getElem?_cons_succ, List.getElem?_cons_zero] at z0 z1
        have hF7 := HFW.out.trans hf6
        have hb := (hb6.set 0 (.int .i64 R)).set 1 (.slice (some ⟨g6, 0, none⟩) (p.length + 1) c6)
        have k0 := hb.cell 0
        have k1 := hb.cell 1
        simp only [List.set_cons_zero, List.set_cons_succ, List.getElem?_cons_succ, List.getElem?_cons_zero] at k0 k1
        have hg8 : g6 ≠ w.heap.size + 1 := by
          rcases hgg6 with e | e
          · simp [Value.ownBlock] at e; omega
          · rw [e]; have : W.heap.size ≤ _ := ((hf5.alloc (.cells #[.int .i64 a, .int .u64 v] 177))).size; omega
        have hrow : Row w6 base (.slice (some ⟨g6, 0, none⟩) (p.length + 1) c6) (p ++ [(a, v)]) := by
          have := hown6
          unfold Row
          rw [ents_append, List.length_append]
          exact this
        have HROW := Lib.hid hrow; have HF8 := Lib.hid hF7; have HG := Lib.hid hg7
        refine step_hard (N := 1) 12 (by kernel_rfl) rfl ?_
        go_wp2_with fail
        refine step_pures (N := 0) [13] (by kernel_rfl) ?_
        simp only [theOps, nthOp, List.map_cons, List.map_nil, Array.getD_eq_getD_getElem?, List.getElem?_toArray, List.getElem?_cons_succ, List.getElem?_cons_zero, Option.getD_some]
        repeat (first | go_big_quiet_step (fail) | quiet_step (fail))
        refine wpQuiet_nil ?_
        refine step_done (by kernel_rfl) ?_
        go_wp2_with fail
        exact bodyPost_ret (v := .tuple #[.agg #[.int .i64 R, .slice (some ⟨g6, 0, none⟩) (p.length + 1) c6], .int .i64 0]) (by simp [results, Try.results138, go_sem, k0, k1]) rfl
          ⟨_, rfl, (HF8.out.setCell (.inr (Nat.le_succ _)) _).setCell (.inr (Nat.le_succ _)) _, ownsRow_setCell (ownsRow_setCell HROW.out (fun e => hg8 (by simpa [Value.ownBlock] using e)) _) (fun e => hg8 (by simpa [Value.ownBlock] using e)) _, fun k e => .inr (by simp [Value.ownBlock] at e; subst e; exact HG.out)⟩
      · go_wp2_with fail
        refine ⟨⟨⟨_, (by exact Fr.from_drew (((Fr.refl _ _).alloc _).alloc _).drew)⟩, rfl⟩, ?_⟩
        refine step_keep (N := 4) 5 (by kernel_rfl) rfl ?_
        have ho : ((W.alloc (.cells #[] 177)).alloc (.cells #[.int .i64 a, .int .u64 v] 177)).ownsRow base 177 2 (.slice (some ⟨W.heap.size, 0, none⟩) 0 0) 0 [] := (World.ownsRow_made (e := 177) (size := 2) W #[] 0 hbW (by unfold maxLen; omega) (by simp)).alloc _
        have hbk : Blk ((W.alloc (.cells #[] 177)).alloc (.cells #[.int .i64 a, .int .u64 v] 177)) (W.heap.size + 1) 177 [.int .i64 a, .int .u64 v] := by have := Blk.new (W.alloc (.cells #[] 177)) 177 [.int .i64 a, .int .u64 v]; simpa using this
        refine wpList_append_row _ rfl _ _ 93 rfl base 177 i0 _ 2 16 Try.underlying93 hi0 hz0 hz1 hz2 rfl (by decide) (W.heap.size) 0 0 [] rfl ho base 177 _ p.length (ents p) rfl (((HR.out.alloc _).alloc _).fr ((Fr.refl [] _).drew) (by simp)) (ents_one p) (by unfold maxLen; omega) (by omega) (Nat.le_trans hbW (((Fr.refl [] W).alloc _).alloc _).size) ?_
        intro g c' w5 hown hg hgg hc1 hc2
        rw [Nat.zero_add, List.nil_append] at hown
        rw [Nat.zero_add] at hc1 ⊢
        have hf5 : Fr [] W w5 := ((((Fr.refl [] W).alloc (.cells #[] 177)).alloc (.cells #[.int .i64 a, .int .u64 v] 177)).drew).grown hg (fun k e => .inr (by cases e; omega))
        have hg5 : W.heap.size ≤ g ∧ g ≠ W.heap.size + 1 := by
          rcases hgg with e | e
          · omega
          · have e2 : g = ((W.alloc (.cells #[] 177)).alloc (.cells #[.int .i64 a, .int .u64 v] 177)).heap.size := e
            simp only [World.size_alloc] at e2; omega
        have hbk5 : Blk w5 (W.heap.size + 1) 177 [.int .i64 a, .int .u64 v] := (Blk.drew hbk).grown hg (fun e => by have := Option.some.inj e; omega)
        simp only [Act.put, List.setIfInBounds_toArray, List.set_cons_zero, List.set_cons_succ]
        refine ⟨⟨⟨_, (by exact Fr.from_drew hf5)⟩, rfl⟩, ?_⟩
        refine step_keep (N := 3) 10 (by kernel_rfl) rfl ?_
        refine wpList_push_blk _ rfl _ _ 93 rfl base 177 i0 _ 2 16 Try.underlying93 hi0 hz0 hz1 hz2 rfl (by decide) (.slice (some ⟨g, 0, none⟩) p.length c') p.length (ents p) rfl hown [.int .i64 a, .int .u64 v] _ _ rfl hbk5 rfl (by simp [Value.oneCell']) (by unfold maxLen; omega) (by omega) (by have := hf5.size; omega) ?_
        intro g6 c6 w6 hown6 hg6 hgg6 hc1' hc2'
        have hf6 : Fr [] W w6 := hf5.grown hg6 (fun k e => .inr (by simp [Value.ownBlock] at e; omega))
        have hg7 : w.heap.size ≤ g6 := by
          rcases hgg6 with e | e
          · simp [Value.ownBlock] at e; omega
          · rw [e]; have := hf5.size; omega
        simp only [Act.put, List.setIfInBounds_toArray, List.set_cons_zero, List.set_cons_succ]
        refine ⟨⟨⟨_, (by exact Fr.from_drew hf6)⟩, rfl⟩, ?_⟩
        refine step_pures (N := 2) [11] (by kernel_rfl) ?_
        simp only [theOps, nthOp, List.map_cons, List.map_nil, Array.getD_eq_getD_getElem?, List.getElem?_toArray, List.getElem?_cons_succ, List.getElem?_cons_zero, Option.getD_some]
        repeat (first | go_big_quiet_step (fail) | quiet_step (fail))
        refine wpQuiet_nil ?_
        have hb6 := HB2'.out.fr hf6 (by simp)
        have y0 := hb6.froz 0
        have y1 := hb6.froz 1
        have z0 := hb6.cell 0
        have z1 := hb6.cell 1
        have hl6 := hb6.lt
        simp only [List.getElem?_cons_succ, List.getElem?_cons_zero] at z0 z1
        have hF7 := HFW.out.trans hf6
        have hb := (hb6.set 0 (.int .i64 R)).set 1 (.slice (some ⟨g6, 0, none⟩) (p.length + 1) c6)
        have k0 := hb.cell 0
        have k1 := hb.cell 1
        simp only [List.set_cons_zero, List.set_cons_succ, List.getElem?_cons_succ, List.getElem?_cons_zero] at k0 k1
        have hg8 : g6 ≠ w.heap.size + 1 := by
          rcases hgg6 with e | e
          · simp [Value.ownBlock] at e; omega
          · rw [e]; have : W.heap.size ≤ _ := (hf5).size; omega
        have hrow : Row w6 base (.slice (some ⟨g6, 0, none⟩) (p.length + 1) c6) (p ++ [(a, v)]) := by
          have := hown6
          unfold Row
          rw [ents_append, List.length_append]
          exact this
        have HROW := Lib.hid hrow; have HF8 := Lib.hid hF7; have HG := Lib.hid hg7
        refine step_hard (N := 1) 12 (by kernel_rfl) rfl ?_
        go_wp2_with fail
        refine step_pures (N := 0) [13] (by kernel_rfl) ?_
        simp only [theOps, nthOp, List.map_cons, List.map_nil, Array.getD_eq_getD_getElem?, List.getElem?_toArray, List.getElem?_cons_succ, List.getElem?_cons_zero, Option.getD_some]
        repeat (first | go_big_quiet_step (fail) | quiet_step (fail))
        refine wpQuiet_nil ?_
        refine step_done (by kernel_rfl) ?_
        go_wp2_with fail
        exact bodyPost_ret (v := .tuple #[.agg #[.int .i64 R, .slice (some ⟨g6, 0, none⟩) (p.length + 1) c6], .int .i64 0]) (by simp [results, Try.results138, go_sem, k0, k1]) rfl
          ⟨_, rfl, (HF8.out.setCell (.inr (Nat.le_succ _)) _).setCell (.inr (Nat.le_succ _)) _, ownsRow_setCell (ownsRow_setCell HROW.out (fun e => hg8 (by simpa [Value.ownBlock] using e)) _) (fun e => hg8 (by simpa [Value.ownBlock] using e)) _, fun k e => .inr (by simp [Value.ownBlock] at e; subst e; exact HG.out)⟩
    · go_wp2_with fail
      refine ⟨⟨⟨_, (by exact Fr.from_drew ((Fr.refl _ _).alloc _).drew)⟩, rfl⟩, ?_⟩
      refine step_keep (N := 5) 2 (by kernel_rfl) rfl ?_
      go_wp2_with fail
      refine ⟨⟨⟨_, (by exact Fr.from_drew (((Fr.refl _ _).alloc _).alloc _).drew)⟩, rfl⟩, ?_⟩
      refine step_keep (N := 4) 5 (by kernel_rfl) rfl ?_
      have ho : ((W.alloc (.cells #[.int .i64 a, .int .u64 v] 177)).alloc (.cells #[] 177)).ownsRow base 177 2 (.slice (some ⟨W.heap.size + 1, 0, none⟩) 0 0) 0 [] := by have := World.ownsRow_made (base := base) (e := 177) (size := 2) (W.alloc (.cells #[.int .i64 a, .int .u64 v] 177)) #[] 0 (by simp; omega) (by unfold maxLen; omega) (by simp); simpa using this
      have hbk : Blk ((W.alloc (.cells #[.int .i64 a, .int .u64 v] 177)).alloc (.cells #[] 177)) (W.heap.size) 177 [.int .i64 a, .int .u64 v] := (Blk.new W _ _).alloc _
      refine wpList_append_row _ rfl _ _ 93 rfl base 177 i0 _ 2 16 Try.underlying93 hi0 hz0 hz1 hz2 rfl (by decide) (W.heap.size + 1) 0 0 [] rfl ho base 177 _ p.length (ents p) rfl (((HR.out.alloc _).alloc _).fr ((Fr.refl [] _).drew) (by simp)) (ents_one p) (by unfold maxLen; omega) (by omega) (Nat.le_trans hbW (((Fr.refl [] W).alloc _).alloc _).size) ?_
      intro g c' w5 hown hg hgg hc1 hc2
      rw [Nat.zero_add, List.nil_append] at hown
      rw [Nat.zero_add] at hc1 ⊢
      have hf5 : Fr [] W w5 := ((((Fr.refl [] W).alloc (.cells #[.int .i64 a, .int .u64 v] 177)).alloc (.cells #[] 177)).drew).grown hg (fun k e => .inr (by cases e; omega))
      have hg5 : W.heap.size ≤ g ∧ g ≠ W.heap.size := by
        rcases hgg with e | e
        · omega
        · have e2 : g = ((W.alloc (.cells #[.int .i64 a, .int .u64 v] 177)).alloc (.cells #[] 177)).heap.size := e
          simp only [World.size_alloc] at e2; omega
      have hbk5 : Blk w5 (W.heap.size) 177 [.int .i64 a, .int .u64 v] := (Blk.drew hbk).grown hg (fun e => by have := Option.some.inj e; omega)
      simp only [Act.put, List.setIfInBounds_toArray, List.set_cons_zero, List.set_cons_succ]
      refine ⟨⟨⟨_, (by exact Fr.from_drew hf5)⟩, rfl⟩, ?_⟩
      refine step_keep (N := 3) 10 (by kernel_rfl) rfl ?_
      refine wpList_push_blk _ rfl _ _ 93 rfl base 177 i0 _ 2 16 Try.underlying93 hi0 hz0 hz1 hz2 rfl (by decide) (.slice (some ⟨g, 0, none⟩) p.length c') p.length (ents p) rfl hown [.int .i64 a, .int .u64 v] _ _ rfl hbk5 rfl (by simp [Value.oneCell']) (by unfold maxLen; omega) (by omega) (by have := hf5.size; omega) ?_
      intro g6 c6 w6 hown6 hg6 hgg6 hc1' hc2'
      have hf6 : Fr [] W w6 := hf5.grown hg6 (fun k e => .inr (by simp [Value.ownBlock] at e; omega))
      have hg7 : w.heap.size ≤ g6 := by
        rcases hgg6 with e | e
        · simp [Value.ownBlock] at e; omega
        · rw [e]; have := hf5.size; omega
      simp only [Act.put, List.setIfInBounds_toArray, List.set_cons_zero, List.set_cons_succ]
      refine ⟨⟨⟨_, (by exact Fr.from_drew hf6)⟩, rfl⟩, ?_⟩
      refine step_pures (N := 2) [11] (by kernel_rfl) ?_
      simp only [theOps, nthOp, List.map_cons, List.map_nil, Array.getD_eq_getD_getElem?, List.getElem?_toArray, List.getElem?_cons_succ, List.getElem?_cons_zero, Option.getD_some]
      repeat (first | go_big_quiet_step (fail) | quiet_step (fail))
      refine wpQuiet_nil ?_
      have hb6 := HB2'.out.fr hf6 (by simp)
      have y0 := hb6.froz 0
      have y1 := hb6.froz 1
      have z0 := hb6.cell 0
      have z1 := hb6.cell 1
      have hl6 := hb6.lt
      simp only [List.getElem?_cons_succ, List.getElem?_cons_zero] at z0 z1
      have hF7 := HFW.out.trans hf6
      have hb := (hb6.set 0 (.int .i64 R)).set 1 (.slice (some ⟨g6, 0, none⟩) (p.length + 1) c6)
      have k0 := hb.cell 0
      have k1 := hb.cell 1
      simp only [List.set_cons_zero, List.set_cons_succ, List.getElem?_cons_succ, List.getElem?_cons_zero] at k0 k1
      have hg8 : g6 ≠ w.heap.size + 1 := by
        rcases hgg6 with e | e
        · simp [Value.ownBlock] at e; omega
        · rw [e]; have : W.heap.size ≤ _ := (hf5).size; omega
      have hrow : Row w6 base (.slice (some ⟨g6, 0, none⟩) (p.length + 1) c6) (p ++ [(a, v)]) := by
        have := hown6
        unfold Row
        rw [ents_append, List.length_append]
        exact this
      have HROW := Lib.hid hrow; have HF8 := Lib.hid hF7; have HG := Lib.hid hg7
      refine step_hard (N := 1) 12 (by kernel_rfl) rfl ?_
      go_wp2_with fail
      refine step_pures (N := 0) [13] (by kernel_rfl) ?_
      simp only [theOps, nthOp, List.map_cons, List.map_nil, Array.getD_eq_getD_getElem?, List.getElem?_toArray, List.getElem?_cons_succ, List.getElem?_cons_zero, Option.getD_some]
      repeat (first | go_big_quiet_step (fail) | quiet_step (fail))
      refine wpQuiet_nil ?_
      refine step_done (by kernel_rfl) ?_
      go_wp2_with fail
      exact bodyPost_ret (v := .tuple #[.agg #[.int .i64 R, .slice (some ⟨g6, 0, none⟩) (p.length + 1) c6], .int .i64 0]) (by simp [results, Try.results138, go_sem, k0, k1]) rfl
        ⟨_, rfl, (HF8.out.setCell (.inr (Nat.le_succ _)) _).setCell (.inr (Nat.le_succ _)) _, ownsRow_setCell (ownsRow_setCell HROW.out (fun e => hg8 (by simpa [Value.ownBlock] using e)) _) (fun e => hg8 (by simpa [Value.ownBlock] using e)) _, fun k e => .inr (by simp [Value.ownBlock] at e; subst e; exact HG.out)⟩
  have HKh := Lib.hid HK
  clear hK HK
  have hlen := rallTo_length p p.length
  by_cases ht : (rget p a).2 = true
  · rw [ht] at hn ⊢
    clear hn ht
    refine wp_region_fr [(1, [0, 1, 2, 3, 4, 5, 6, 7, 8, 9, 10, 11, 14, 15]), (2, [12]), (0, [13, 16, 17])] [] (by kernel_rfl) (by kernel_rfl) ?_
    simp only [theOps, nthOp, List.map_cons, List.map_nil, Array.getD_eq_getD_getElem?, List.getElem?_toArray, List.getElem?_cons_succ, List.getElem?_cons_zero, Option.getD_some]
    repeat ((first | refine wpSegs_soft ?_ | refine wpSegs_pure ?_ | refine wpSegs_here ?_); (repeat (first | go_big_quiet_step (fail) | quiet_step (fail))); refine wpQuiet_nil ?_)
    refine wpSegs_keep ?_
    go_wp2_with fail
    refine ⟨⟨⟨_, (by exact ⟨rfl, rfl, rfl, Nat.le_refl _, fun _ _ _ => rfl⟩)⟩, rfl⟩, ?_⟩
    repeat ((first | refine wpSegs_soft ?_ | refine wpSegs_pure ?_ | refine wpSegs_here ?_); (repeat (first | go_big_quiet_step (fail) | quiet_step (fail))); refine wpQuiet_nil ?_)
    refine wpSegs_done ?_
    go_wp2_with fail
    exact HKh.out _ _ _ _ _ _ _ _ _ _ _ _ _ _ _ _ _ _ _ _ _ _ _ _ _ _ _ ((Fr.refl [] _).drew)
  have ht2 : (rget p a).2 = false := by simpa using ht
  rw [ht2]
  by_cases hr1 : R ≤ p.length
  · have hr2 : ¬ R ≤ (rall p).length := fun h => hn ⟨ht2, hr1, h⟩
    have hg1 : decide ((p.length : Int) ≥ (R : Int)) = true := by simp; omega
    have hg2 : decide (((rall p).length : Int) ≥ (R : Int)) = false := by simp; omega
    have hg3 : decide (R ≤ p.length) = true := by simp; omega
    have hg4 : decide (R ≤ (rall p).length) = false := by simp; omega
    have hrl : (rall p).length ≤ 1000000 := by unfold rall; omega
    have H3 := Lib.hid hr2
    clear hn ht ht2 hr2 hlen
    refine wp_region_fr [(1, [0, 1, 2, 3, 4, 5, 6, 7, 8, 9, 10, 11, 14, 15]), (2, [12]), (0, [13, 16, 17])] [] (by kernel_rfl) (by kernel_rfl) ?_
    simp only [theOps, nthOp, List.map_cons, List.map_nil, Array.getD_eq_getD_getElem?, List.getElem?_toArray, List.getElem?_cons_succ, List.getElem?_cons_zero, Option.getD_some]
    repeat ((first | refine wpSegs_soft ?_ | refine wpSegs_pure ?_ | refine wpSegs_here ?_); (repeat (first | go_big_quiet_step (fail) | quiet_step (fail))); refine wpQuiet_nil ?_)
    refine wpSegs_keep ?_
    go_wp2_with fail
    refine (rall_any base R _ p _ (HRow.out.fr ((Fr.refl [] _).drew) (by simp)) hp (by have := HF.out.size; simp; omega)).mono ?_
    rintro e w3 ⟨vr, rfl, hvr, hfr, _⟩
    obtain ⟨ra, rc, rfl⟩ := ownsRow_any hvr
    clear hvr
    go_wp2_with fail
    refine ⟨⟨⟨_, (by exact hfr)⟩, rfl⟩, ?_⟩
    repeat ((first | refine wpSegs_soft ?_ | refine wpSegs_pure ?_ | refine wpSegs_here ?_); (repeat (first | go_big_quiet_step (fail) | quiet_step (fail))); refine wpQuiet_nil ?_)
    refine wpSegs_done ?_
    go_wp2_with fail
    exact HKh.out _ _ _ _ _ _ _ _ _ _ _ _ _ _ _ _ _ _ _ _ _ _ _ _ _ _ _ (((Fr.refl [] _).drew).trans hfr)
  · have hg1 : decide ((p.length : Int) ≥ (R : Int)) = false := by simp; omega
    have hg3 : decide (R ≤ p.length) = false := by simp; omega
    clear hn ht ht2 hlen
    refine wp_region_fr [(1, [0, 1, 2, 3, 4, 5, 6, 7, 8, 9, 10, 11, 14, 15]), (2, [12]), (0, [13, 16, 17])] [] (by kernel_rfl) (by kernel_rfl) ?_
    simp only [theOps, nthOp, List.map_cons, List.map_nil, Array.getD_eq_getD_getElem?, List.getElem?_toArray, List.getElem?_cons_succ, List.getElem?_cons_zero, Option.getD_some]
    repeat ((first | refine wpSegs_soft ?_ | refine wpSegs_pure ?_ | refine wpSegs_here ?_); (repeat (first | go_big_quiet_step (fail) | quiet_step (fail))); refine wpQuiet_nil ?_)
    refine wpSegs_keep ?_
    go_wp2_with fail
    refine ⟨⟨⟨_, (by exact ⟨rfl, rfl, rfl, Nat.le_refl _, fun _ _ _ => rfl⟩)⟩, rfl⟩, ?_⟩
    repeat ((first | refine wpSegs_soft ?_ | refine wpSegs_pure ?_ | refine wpSegs_here ?_); (repeat (first | go_big_quiet_step (fail) | quiet_step (fail))); refine wpQuiet_nil ?_)
    refine wpSegs_done ?_
    go_wp2_with fail
    exact HKh.out _ _ _ _ _ _ _ _ _ _ _ _ _ _ _ _ _ _ _ _ _ _ _ _ _ _ _ ((Fr.refl [] _).drew)

theorem rput_any (base R : Nat) (sv : Value) (p : List (Int × Int)) (a v : Int) (w : World) (h : Row w base sv p) (hp : p.length ≤ 1000000) (hbase : base ≤ w.heap.size) (hR : R ≤ 65536) :
    Calls Try.prog 138 #[.agg #[.int .i64 R, sv], .int .i64 a, .int .u64 v] w (RPutPost w base R sv p a v) := by
  by_cases hn : (rget p a).2 = false ∧ R ≤ p.length ∧ R ≤ (rall p).length
  · exact rput_full base R sv p a v w h hp hbase hR hn.1 hn.2.1 hn.2.2
  · exact rput_ok base R sv p a v w h hp hbase hn
end Go.Proofs.Ytccioehckfdjdaa
