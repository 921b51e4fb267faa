/- The walk of scribe's New. -/
import Derived.Test.YtccioehckfdjdaaScw
import Derived.Test.YtccioehckfdjdaaPush
import Derived.OwnWalk
set_option linter.unusedSimpArgs false
set_option linter.unusedVariables false
namespace Go.Tum
theorem ArgE.of_row {T : Type} {en : T → List Value} {n : Nat} {w : World} {base : Nat} {e : TypeId} {v : Value} {l : List T} (hn : ∀ x, (en x).length = n) (h : w.ownsRow base e n v l.length (flat en l)) : ArgE en n w v l := by
  rcases ownsRow_form h with ⟨e1, e2⟩ | ⟨g, cap, rfl, hg, _, hc, _⟩
  · exact ⟨none, 0, by rw [e1, e2], by omega, .inl (List.eq_nil_of_length_eq_zero e2)⟩
  · refine ⟨_, _, rfl, hc, .inr ⟨⟨g, 0, none⟩, rfl, hg, fun i hi j u hj => ?_⟩⟩
    rw [Addr.add_lit, Nat.zero_add]
    have hjl : j < n := by rw [← hn l[i]]; exact (List.getElem?_eq_some_iff.1 hj).1
    exact ownsRow_cell h _ _ ((flat_get hn l i hi j hjl).trans hj)
theorem ArgE.take {T : Type} {en : T → List Value} {n : Nat} {w : World} {a : Option Addr} {m cap : Nat} {l : List T} (h : ArgE en n w (.slice a m cap) l) (k : Nat) (hk : k ≤ l.length) : ArgE en n w (.slice a k cap) (l.take k) := by
  obtain ⟨a', cap', e, hc, h⟩ := h
  simp only [Value.slice.injEq] at e
  obtain ⟨rfl, rfl, rfl⟩ := e
  have hl : (l.take k).length = k := by rw [List.length_take]; omega
  refine ⟨a, cap, by rw [hl], by omega, ?_⟩
  rcases h with h | ⟨x, rfl, hx, hcell⟩
  · left; subst h; simp
  · right
    refine ⟨x, rfl, hx, fun i hi j u hj => hcell i (by omega) j u ?_⟩
    rwa [List.getElem_take] at hj
end Go.Tum
namespace Go.Proofs.Ytccioehckfdjdaa
open Go.RowKit Go.Tum Go.Tum.Y Go.Tum.Sc
theorem Sc_infoE : (Try.prog.info? 136).map (fun i => (i.zero, i.size, i.bytes)) = some (some (.agg #[.int .i64 0, .int .u64 0]), 2, 16) := by kernel_rfl
/-- A new slice that holds the same. -/
theorem eclone_nil (w : World) (n c : Nat) :
    Calls Try.prog 133 #[.slice none n c] w fun e w' => ∃ v, e = .returned v ∧ Fresh w w' (rowT 0 136 2 v 0 []) := by
  have hk := fun (wx : World) => Lib.run_eql_slice_nil (P := Try.prog) wx 113 136 none n c 0 0 Try.underlying113
  go_enter Try.func133, Try.ntmps133
  go_wp2
  go_ret
  exact ⟨_, rfl, Fr.refl _ _, [], ⟨rfl, World.ownsRow_nil _ _ _ _⟩, by simp⟩
set_option maxHeartbeats 400000 in
theorem eclone_some (w : World) (x : Addr) (n c : Nat) (l : List Value) (hl : l.length = n * 2) (h1 : ∀ u ∈ l, u.oneCell' = true) (hr : ∀ j u, l[j]? = some u → w.cell? (x.add j) = some u) (hn : n ≤ 1000000) :
    Calls Try.prog 133 #[.slice (some x) n c] w fun e w' => ∃ v, e = .returned v ∧ Fresh w w' (rowT 0 136 2 v n l) := by
  obtain ⟨i0, hi0, hz0, hz1, hz2⟩ := info_parts Sc_infoE
  have hk := fun (wx : World) => Lib.run_eql_slice_nil (P := Try.prog) wx 113 136 (some x) n c 0 0 Try.underlying113
  have HR : Hid ((w.alloc (.cells [].toArray 136)).ownsRow 0 136 2 (.slice (some ⟨w.heap.size, 0, none⟩) 0 0) 0 []) :=
    World.ownsRow_made w #[] 0 (Nat.zero_le _) (by unfold maxLen; omega) (by simp)
  have HH : Hid (∀ j u, l[j]? = some u → (w.alloc (.cells [].toArray 136)).cell? (x.add j) = some u) := fun j u hj => ((Fr.refl [] w).alloc _).cell (hr j u hj) (by simp)
  clear hr
  go_enter Try.func133, Try.ntmps133
  go_wp2_with (at_builtin; go_must (refine wpList_append_at _ rfl _ _ 113 rfl 0 136 i0 _ 2 16 Try.underlying113 hi0 hz0 hz1 hz2 rfl (by decide) (.slice (some ⟨w.heap.size, 0, none⟩) 0 0) 0 [] rfl HR.out x n c l rfl hl HH.out h1 (by unfold maxLen; omega) (by omega) (Nat.zero_le _) (by simp) ?_))
  intro g2 c2 w2 hown hg2 hgg hc1 hc2
  go_wp2
  go_ret
  refine ⟨_, rfl, ((Fr.refl [] w).alloc (.cells #[] 136)).grown hg2 (fun k e => .inr (by simp [Value.ownBlock] at e; omega)), [g2], ⟨rfl, by simpa using hown⟩, ?_⟩
  intro k hk
  simp [Value.ownBlock] at hk hgg
  omega
theorem eclone_any (w : World) (v : Value) (l : List (Int × Int)) (h : ArgE enE 2 w v l) (hn : l.length ≤ 1000000) :
    Calls Try.prog 133 #[v] w fun e w' => ∃ v', e = .returned v' ∧ Fresh w w' (rowT 0 136 2 v' l.length (flat enE l)) := by
  obtain ⟨a, cap, rfl, _, h⟩ := h
  cases a with
  | none =>
    rcases h with rfl | ⟨x, e, _⟩
    · exact eclone_nil w _ cap
    · cases e
  | some x =>
    refine eclone_some w x _ cap (flat enE l) (flat_length enE_len l) (flat_one_cell enE_one l) (fun j u hj => ?_) hn
    have hjl : j < l.length * 2 := by rw [← flat_length enE_len l]; exact (List.getElem?_eq_some_iff.1 hj).1
    rcases h with rfl | ⟨x', e, _, hc⟩
    · simp at hjl
    · injection e with e; subst e
      have h1 : j / 2 < l.length := by omega
      have := hc (j / 2) h1 (j % 2) u (by rw [← hj, ← flat_get enE_len l (j / 2) h1 (j % 2) (by omega), show j / 2 * 2 + j % 2 = j by omega])
      rwa [show j / 2 * 2 + j % 2 = j by omega] at this
set_option maxRecDepth 100000 in
set_option maxHeartbeats 4000000 in
theorem scnew_any (w : World) (c : Cfg) (h : Ok c) (who seq : Int) (v : Value) (L : List (Int × Int)) (hL : ArgE enE 2 w v L) (hn : L.length ≤ 100000) (k : Nat) (hk : k = min L.length (cap c).toNat) :
    Calls Try.prog 84 #[mapV c, .int .i64 who, .int .u64 seq, v] w fun e w' => ∃ b v', e = .returned (.pointer (some ⟨b, 0, none⟩)) ∧ Sep w w' [blkT b 205 (scL (mapCells c) who seq v' 0), rowT 0 136 2 v' k (flat enE (L.take k))] := by
  have HC := Lib.hid (fun w => cap_any w c h)
  have hcb := cap_bd h
  have hmin : (if cap c < (L.length : Int) then cap c else (L.length : Int)) = (k : Int) := by split <;> omega
  have hkl : k ≤ L.length := by omega
  have hlk : (L.take k).length = k := by rw [List.length_take]; omega
  obtain ⟨a, lc, rfl⟩ := hL.len
  have hcap : L.length ≤ lc := by obtain ⟨a', cap', e, hh, _⟩ := hL; simp only [Value.slice.injEq] at e; omega
  have HT := Lib.hid (fun w' (f : Fr [] w w') => (hL.take k hkl).fr f)
  have hki : (k : Int) ≤ lc := by omega
  have hk0 : (0 : Int) ≤ k := by omega
  have hni : (L.length : Int) ≤ 100000 := by omega
  have hsz : (mapCells c).length = 24 := rfl
  have HS := Lib.hid ((Sep.nil (Fr.refl [] w)).new 31 (mapCells c))
  unfold mapV at *
  generalize mapCells c = cs at *
  generalize cap c = q at *
  generalize hK : L.take k = K at *
  generalize L.length = m at *
  clear h hL hK hk
  obtain ⟨x0,x1,x2,x3,x4,x5,x6,x7,x8,x9,x10,x11,x12,x13,x14,x15,x16,x17,x18,x19,x20,x21,x22,x23, rfl⟩ := len24 hsz
  have hmd := (HS.out.blk 0 rfl).drew
  go_enter Try.func84, Try.ntmps84
  go_wp2
  refine wp_region_fr [(1, [0, 1, 2, 3, 4, 5, 6]), (2, [7]), (0, [8, 9]), (2, [10]), (0, [11]), (3, [12]), (0, [13])] [] (by kernel_rfl) (by kernel_rfl) ?_
  simp only [theOps, nthOp, List.map_cons, List.map_nil, Array.getD_eq_getD_getElem?, List.getElem?_toArray, List.getElem?_cons_succ, List.getElem?_cons_zero, Option.getD_some]
  refine wpSegs_soft ?_
  refine wpQuiet_load_mid 31 _ w.heap.size 0 [x0, x1, x2, x3, x4, x5, x6, x7, x8, x9, x10, x11, x12, x13, x14, x15, x16, x17, x18, x19, x20, x21, x22, x23] _ rfl rfl rfl (rangeAt_after hmd (by simp)) Try.underlying31 rfl (by kernel_rfl) ?_
  simp only [Act.put, List.setIfInBounds_toArray, List.set_cons_zero, List.set_cons_succ]
  iterate 5 (first | go_big_quiet_step (fail) | quiet_step (fail))
  refine wpQuiet_load_mid 31 _ w.heap.size 0 [x0, x1, x2, x3, x4, x5, x6, x7, x8, x9, x10, x11, x12, x13, x14, x15, x16, x17, x18, x19, x20, x21, x22, x23] _ rfl rfl rfl (rangeAt_after hmd (by simp)) Try.underlying31 rfl (by kernel_rfl) ?_
  simp only [Act.put, List.setIfInBounds_toArray, List.set_cons_zero, List.set_cons_succ]
  refine wpQuiet_nil ?_
  refine wpSegs_keep ?_
  go_wp2_with fail
  refine (HC.out _).mono ?_
  rintro e w1 ⟨rfl, hf⟩
  have HF := Lib.hid hf; clear hf
  go_wp2_with fail
  refine ⟨⟨⟨_, (by exact HF.out)⟩, rfl⟩, ?_⟩
  repeat ((first | refine wpSegs_soft ?_ | refine wpSegs_pure ?_ | refine wpSegs_here ?_); (repeat (first | go_big_quiet_step (fail) | quiet_step (fail))); refine wpQuiet_nil ?_)
  refine wpSegs_keep ?_
  go_wp2_with fail
  refine (eclone_any _ _ K (HT.out _ (((Fr.refl [] w).alloc _).drew.trans HF.out)) (by omega)).mono ?_
  rintro e w2 ⟨v', rfl, hN⟩
  rw [hlk] at hN
  obtain ⟨la, lc', rfl⟩ := hN.form
  have HN := Lib.hid hN; clear hN
  go_wp2_with fail
  refine ⟨⟨⟨_, (by exact HF.out.trans HN.out.fr)⟩, rfl⟩, ?_⟩
  repeat ((first | refine wpSegs_soft ?_ | refine wpSegs_pure ?_ | refine wpSegs_here ?_); (repeat (first | go_big_quiet_step (fail) | quiet_step (fail))); refine wpQuiet_nil ?_)
  refine wpSegs_hard ?_
  go_wp2_with fail
  repeat ((first | refine wpSegs_soft ?_ | refine wpSegs_pure ?_ | refine wpSegs_here ?_); (repeat (first | go_big_quiet_step (fail) | quiet_step (fail))); refine wpQuiet_nil ?_)
  refine wpSegs_done ?_
  go_wp2_with fail
  go_ret
  have hS := ((HS.out.drew.fr0 HF.out).fresh HN.out).new 205 (scL [x0, x1, x2, x3, x4, x5, x6, x7, x8, x9, x10, x11, x12, x13, x14, x15, x16, x17, x18, x19, x20, x21, x22, x23] who seq (.slice la k lc') 0)
  exact ⟨_, _, rfl, hS.sub [0, 1] rfl (by decide)⟩
end Go.Proofs.Ytccioehckfdjdaa
