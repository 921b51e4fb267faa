/- How a shared memory stands in memory. -/
import Derived.Test.YtccioehckfdjdaaChecked
import Derived.Test.YtccioehckfdjdaaCplain
import Derived.Test.YtccioehckfdjdaaPush
import Derived.Test.YtccioehckfdjdaaRegion
namespace Go.Proofs.Ytccioehckfdjdaa
open Go.RowKit Go.Tum Go.Tum.C

theorem C_infoCell : (Try.prog.info? 41).map (fun i => (i.zero, i.size, i.bytes)) = some (some (.agg #[.int .u64 0, .int .u64 0]), 2, 16) := by kernel_rfl
theorem C_infoEvent : (Try.prog.info? 134).map (fun i => (i.zero, i.size, i.bytes)) = some (some (.agg #[.int .i64 0, .int .i64 0, .int .i64 0, .int .u64 0, .int .u64 0, .int .u64 0, .int .u64 0, .int .u64 0, .int .u64 0, .bool false]), 10, 80) := by kernel_rfl

def memCells (vc vt : Value) (m : M) : List Value := vc :: (m.steps.map (Value.int .i64) ++ [vt])
structure MemAt (w : World) (b : Nat) (vc vt : Value) (m : M) : Prop where
  blk : Blk w b 198 (memCells vc vt m)
  rc : w.ownsRow 0 41 2 vc m.cells.length (flat enC m.cells)
  rt : w.ownsRow 0 134 10 vt m.trace.length (flat enEv m.trace)
  nb1 : ∀ k, vc.ownBlock = some k → k ≠ b
  nb2 : ∀ k, vt.ownBlock = some k → k ≠ b
  nct : ∀ k, vc.ownBlock = some k → vt.ownBlock ≠ some k
  few : m.cells.length ≤ 65536
  s8 : m.steps.length = 8
def memFp (b : Nat) (vc vt : Value) : List Nat := b :: (vc.ownBlock.toList ++ vt.ownBlock.toList)
theorem mem_memFp {b : Nat} {vc vt : Value} {k : Nat} : k ∈ memFp b vc vt ↔ k = b ∨ vc.ownBlock = some k ∨ vt.ownBlock = some k := by
  simp [memFp]
theorem MemAt.fr {w w' : World} {b : Nat} {vc vt : Value} {m : M} {fp : List Nat} (h : MemAt w b vc vt m) (f : Fr fp w w') (hn : ∀ k ∈ memFp b vc vt, k ∉ fp) : MemAt w' b vc vt m :=
  ⟨h.blk.fr f (hn b (mem_memFp.2 (.inl rfl))), ownsRow_fr h.rc f (fun k hk => hn k (mem_memFp.2 (.inr (.inl hk)))), ownsRow_fr h.rt f (fun k hk => hn k (mem_memFp.2 (.inr (.inr hk)))), h.nb1, h.nb2, h.nct, h.few, h.s8⟩
theorem MemAt.lt {w : World} {b : Nat} {vc vt : Value} {m : M} (h : MemAt w b vc vt m) : ∀ k ∈ memFp b vc vt, k < w.heap.size := by
  intro k hk
  rcases mem_memFp.1 hk with rfl | h1 | h1
  · exact h.blk.lt
  · exact (World.ownsRow.lt h.rc k h1).2
  · exact (World.ownsRow.lt h.rt k h1).2
theorem MemAt.c0 {w : World} {b : Nat} {vc vt : Value} {m : M} (h : MemAt w b vc vt m) : w.cell? ⟨b, 0, none⟩ = some vc := (h.blk.cell 0).trans rfl
theorem MemAt.c9 {w : World} {b : Nat} {vc vt : Value} {m : M} (h : MemAt w b vc vt m) : w.cell? ⟨b, 9, none⟩ = some vt := by
  rw [h.blk.cell 9]
  simp only [memCells, List.getElem?_cons_succ]
  rw [List.getElem?_append_right (by simp [h.s8])]
  simp [h.s8]
theorem MemAt.cs {w : World} {b : Nat} {vc vt : Value} {m : M} (h : MemAt w b vc vt m) {i : Nat} (hi : i < 8) : w.cell? ⟨b, i + 1, none⟩ = some (.int .i64 (m.cnt i)) := by
  rw [h.blk.cell (i + 1)]
  simp only [memCells, List.getElem?_cons_succ]
  have := h.s8
  rw [List.getElem?_append_left (by simp; omega)]
  simp [M.cnt, List.getD_eq_getElem?_getD, show i < m.steps.length by omega]
def rawT (b : Nat) (vc vt : Value) (m : M) : Thing where
  P w fp := fp = memFp b vc vt ∧ MemAt w b vc vt m
  fr := by
    rintro w w' fp fp' ⟨rfl, h⟩ f hn
    exact ⟨rfl, h.fr f hn⟩
  lt := by
    rintro w fp ⟨rfl, h⟩
    exact h.lt
/-- A shared memory, behind a pointer to block b. -/
def memT (b : Nat) (m : M) : Thing where
  P w fp := C.Good m ∧ ∃ vc vt, fp = memFp b vc vt ∧ MemAt w b vc vt m
  fr := by
    rintro w w' fp fp' ⟨hg, vc, vt, rfl, h⟩ f hn
    exact ⟨hg, vc, vt, rfl, h.fr f hn⟩
  lt := by
    rintro w fp ⟨hg, vc, vt, rfl, h⟩
    exact h.lt
theorem sep_mem {w0 w : World} {Ts : List Thing} (h : Sep w0 w Ts) (i : Nat) {b : Nat} {m : M} (hi : Ts[i]? = some (memT b m)) : C.Good m ∧ ∃ vc vt, MemAt w b vc vt m := by
  obtain ⟨fp, ⟨hg, vc, vt, _, hp⟩, _⟩ := h.get i hi
  exact ⟨hg, vc, vt, hp⟩
theorem sep_raw {w0 w : World} {Ts : List Thing} (h : Sep w0 w Ts) (i : Nat) {b : Nat} {vc vt : Value} {m : M} (hi : Ts[i]? = some (rawT b vc vt m)) : MemAt w b vc vt m := by
  obtain ⟨fp, ⟨_, hp⟩, _⟩ := h.get i hi
  exact hp
theorem open_mem {w0 w : World} {R : List Thing} {b : Nat} {m : M} (h : Sep w0 w (memT b m :: R)) : C.Good m ∧ ∃ vc vt, Sep w0 w (rawT b vc vt m :: R) := by
  obtain ⟨fp, ⟨hg, vc, vt, rfl, hp⟩, _, hk⟩ := h.get 0 rfl
  exact ⟨hg, vc, vt, hk (rawT b vc vt m) w _ ⟨rfl, hp⟩ (Fr.refl _ _) (fun q hq => .inl hq)⟩
theorem shut_mem {w0 w : World} {R : List Thing} {b : Nat} {vc vt : Value} {m : M} (h : Sep w0 w (rawT b vc vt m :: R)) (hg : C.Good m) : Sep w0 w (memT b m :: R) := by
  obtain ⟨fp, ⟨rfl, hp⟩, _, hk⟩ := h.get 0 rfl
  exact hk (memT b m) w _ ⟨hg, vc, vt, rfl, hp⟩ (Fr.refl _ _) (fun q hq => .inl hq)

/-! ### what a step writes -/
theorem MemAt.cell {w : World} {b g n cap : Nat} {vt : Value} {m : M} (h : MemAt w b (.slice (some ⟨g, 0, none⟩) n cap) vt m) {k : Nat} (hk : k < m.cells.length) :
    w.cell? ⟨g, k * 2, none⟩ = some (.int .u64 (m.at k).1) ∧ w.cell? ⟨g, k * 2 + 1, none⟩ = some (.int .u64 (m.at k).2) := by
  have hr := h.rc
  obtain ⟨la, lc, e⟩ := ownsRow_any hr
  simp only [Value.slice.injEq] at e
  obtain ⟨-, rfl, -⟩ := e
  have e : m.at k = m.cells[k] := by simp [M.at, List.getD_eq_getElem?_getD, hk]
  rw [e]
  exact ⟨ownsRow_cell hr _ _ (by have := flat_get enC_len m.cells k hk 0 (by decide); simpa [enC] using this), ownsRow_cell hr _ _ (by have := flat_get enC_len m.cells k hk 1 (by decide); simpa [enC] using this)⟩
theorem MemAt.frozC {w : World} {b g n cap : Nat} {vt : Value} {m : M} (h : MemAt w b (.slice (some ⟨g, 0, none⟩) n cap) vt m) (j : Nat) : w.frozen? ⟨g, j, none⟩ = false := by
  have hr := h.rc
  obtain ⟨la, lc, e⟩ := ownsRow_any hr
  simp only [Value.slice.injEq] at e
  obtain ⟨-, rfl, -⟩ := e
  exact ownsRow_froz hr j
theorem MemAt.ltC {w : World} {b g n cap : Nat} {vt : Value} {m : M} (h : MemAt w b (.slice (some ⟨g, 0, none⟩) n cap) vt m) : g < w.heap.size := (World.ownsRow.lt h.rc g rfl).2
theorem sep_setC {w0 w : World} {Ts : List Thing} (h : Sep w0 w Ts) (i : Nat) {b g n cap : Nat} {vt : Value} {m : M} (hi : Ts[i]? = some (rawT b (.slice (some ⟨g, 0, none⟩) n cap) vt m)) {k : Nat} (hk : k < m.cells.length) (u v : Int) :
    Sep w0 ((w.setCell ⟨g, k * 2, none⟩ (.int .u64 u)).setCell ⟨g, k * 2 + 1, none⟩ (.int .u64 v)) (Ts.set i (rawT b (.slice (some ⟨g, 0, none⟩) n cap) vt { m with cells := m.cells.set k (u, v) })) := by
  obtain ⟨fp, ⟨rfl, hp⟩, _, hkk⟩ := h.get i hi
  have hm : g ∈ memFp b (.slice (some ⟨g, 0, none⟩) n cap) vt := mem_memFp.2 (.inr (.inl rfl))
  have hgb := hp.nb1 g rfl
  have hgt := hp.nct g rfl
  refine hkk _ _ _ ⟨rfl, ?_⟩ (((Fr.refl _ w).setCell (.inl hm) _).setCell (.inl hm) _) (fun q hq => .inl hq)
  have hr := hp.rc
  obtain ⟨la, lc, e⟩ := ownsRow_any hr
  simp only [Value.slice.injEq] at e
  obtain ⟨-, rfl, -⟩ := e
  refine ⟨(hp.blk.setOther _ (Ne.symm hgb)).setOther _ (Ne.symm hgb), ?_, ownsRow_setCell (ownsRow_setCell hp.rt hgt _) hgt _, hp.nb1, hp.nb2, hp.nct, by simpa using hp.few, hp.s8⟩
  have h2 := ownsRow_set (ownsRow_set hr (k * 2) (.int .u64 u)) (k * 2 + 1) (.int .u64 v)
  have e2 : ((flat enC m.cells).set (k * 2) (.int .u64 u)).set (k * 2 + 1) (.int .u64 v) = flat enC (m.cells.set k (u, v)) := by
    refine flat_ext enC_len _ (by simp [flat_length enC_len]) fun j hj q hq => ?_
    rw [List.length_set] at hj
    simp only [List.getElem_set]
    by_cases e : k = j
    · subst e
      rw [if_pos rfl]
      rcases (show q = 0 ∨ q = 1 by omega) with rfl | rfl
      · rw [List.getElem?_set_ne (by omega), Nat.add_zero, List.getElem?_set_self (by rw [flat_length enC_len]; omega)]; rfl
      · rw [List.getElem?_set_self (by rw [List.length_set, flat_length enC_len]; omega)]; rfl
    · rw [if_neg e, List.getElem?_set_ne (by omega), List.getElem?_set_ne (by omega), flat_get enC_len _ j hj q hq]
  rw [e2] at h2
  simpa using h2
theorem sep_setV {w0 w : World} {Ts : List Thing} (h : Sep w0 w Ts) (i : Nat) {b g n cap : Nat} {vt : Value} {m : M} (hi : Ts[i]? = some (rawT b (.slice (some ⟨g, 0, none⟩) n cap) vt m)) {k : Nat} (hk : k < m.cells.length) (u : Int) :
    Sep w0 (w.setCell ⟨g, k * 2, none⟩ (.int .u64 u)) (Ts.set i (rawT b (.slice (some ⟨g, 0, none⟩) n cap) vt { m with cells := m.cells.set k (u, (m.at k).2) })) := by
  obtain ⟨fp, ⟨rfl, hp⟩, _, hkk⟩ := h.get i hi
  have hm : g ∈ memFp b (.slice (some ⟨g, 0, none⟩) n cap) vt := mem_memFp.2 (.inr (.inl rfl))
  have hgb := hp.nb1 g rfl
  have hgt := hp.nct g rfl
  refine hkk _ _ _ ⟨rfl, ?_⟩ ((Fr.refl _ w).setCell (.inl hm) _) (fun q hq => .inl hq)
  have hr := hp.rc
  obtain ⟨la, lc, e⟩ := ownsRow_any hr
  simp only [Value.slice.injEq] at e
  obtain ⟨-, rfl, -⟩ := e
  refine ⟨hp.blk.setOther _ (Ne.symm hgb), ?_, ownsRow_setCell hp.rt hgt _, hp.nb1, hp.nb2, hp.nct, by simpa using hp.few, hp.s8⟩
  have h2 := ownsRow_set hr (k * 2) (.int .u64 u)
  have e2 : (flat enC m.cells).set (k * 2) (.int .u64 u) = flat enC (m.cells.set k (u, (m.at k).2)) := by
    refine flat_ext enC_len _ (by simp [flat_length enC_len]) fun j hj q hq => ?_
    rw [List.length_set] at hj
    simp only [List.getElem_set]
    by_cases e : k = j
    · subst e
      rw [if_pos rfl]
      rcases (show q = 0 ∨ q = 1 by omega) with rfl | rfl
      · rw [Nat.add_zero, List.getElem?_set_self (by rw [flat_length enC_len]; omega)]; rfl
      · rw [List.getElem?_set_ne (by omega), flat_get enC_len _ k hj 1 (by decide)]
        simp [enC, M.at, List.getD_eq_getElem?_getD, hj]
    · rw [if_neg e, List.getElem?_set_ne (by omega), flat_get enC_len _ j hj q hq]
  rw [e2] at h2
  simpa using h2
theorem sep_setS {w0 w : World} {Ts : List Thing} (h : Sep w0 w Ts) (i : Nat) {b : Nat} {vc vt : Value} {m : M} (hi : Ts[i]? = some (rawT b vc vt m)) {k : Nat} (hk : k < 8) (u : Int) :
    Sep w0 (w.setCell ⟨b, k + 1, none⟩ (.int .i64 u)) (Ts.set i (rawT b vc vt { m with steps := m.steps.set k u })) := by
  obtain ⟨fp, ⟨rfl, hp⟩, _, hkk⟩ := h.get i hi
  have hm : b ∈ memFp b vc vt := mem_memFp.2 (.inl rfl)
  refine hkk _ _ _ ⟨rfl, ?_⟩ ((Fr.refl _ w).setCell (.inl hm) _) (fun q hq => .inl hq)
  refine ⟨?_, ownsRow_setCell hp.rc (fun e => hp.nb1 b e rfl) _, ownsRow_setCell hp.rt (fun e => hp.nb2 b e rfl) _, hp.nb1, hp.nb2, hp.nct, hp.few, by simp [hp.s8]⟩
  have := hp.blk.set (k + 1) (.int .i64 u)
  have e : (memCells vc vt m).set (k + 1) (.int .i64 u) = memCells vc vt { m with steps := m.steps.set k u } := by
    unfold memCells
    rw [List.set_cons_succ, List.set_append_left _ _ (by simp [hp.s8, hk]), List.map_set]
  rw [e] at this
  exact this
theorem sep_pushT {w0 w w' : World} {Ts : List Thing} (h : Sep w0 w Ts) (i : Nat) {b : Nat} {vc vt vt' : Value} {m : M} (hi : Ts[i]? = some (rawT b vc vt m)) {n : Nat} {e : Ev}
    (ho : w'.ownsRow 0 134 10 vt' n (flat enEv m.trace ++ enEv e)) (hn : n = m.trace.length + 1) (hg : w.grownBy w' vt.ownBlock) (hb : ∀ g, vt'.ownBlock = some g → vt.ownBlock = some g ∨ w.heap.size ≤ g) :
    Sep w0 (w'.setCell ⟨b, 9, none⟩ vt') (Ts.set i (rawT b vc vt' { m with trace := m.trace ++ [e] })) := by
  obtain ⟨fp, ⟨rfl, hp⟩, _, hkk⟩ := h.get i hi
  have hm : b ∈ memFp b vc vt := mem_memFp.2 (.inl rfl)
  have f : Fr (memFp b vc vt) w w' := (Fr.refl _ w).grown hg (fun k e => .inl (mem_memFp.2 (.inr (.inr e))))
  have hbl := hp.blk.lt
  have hnew : ∀ g, vt'.ownBlock = some g → g ≠ b := fun g e hgb => by
    rcases hb g e with h1 | h1
    · exact hp.nb2 g h1 hgb
    · omega
  refine hkk _ _ (memFp b vc vt') ⟨rfl, ?_⟩ (f.setCell (.inl hm) _) (fun q hq => ?_)
  · have f2 : Fr vt.ownBlock.toList w w' := (Fr.refl _ w).grown hg (fun k e => .inl (by simp [e]))
    have hbk := (hp.blk.fr f2 (fun hm2 => by have := hp.nb2 b (by simpa using hm2); exact this rfl)).set 9 vt'
    refine ⟨?_, ownsRow_setCell (ownsRow_fr hp.rc f2 (fun k hk hm2 => hp.nct k hk (by simpa using hm2))) (fun e => hp.nb1 b e rfl) _, ?_, hp.nb1, hnew, ?_, hp.few, hp.s8⟩
    · have e2 : (memCells vc vt m).set 9 vt' = memCells vc vt' { m with trace := m.trace ++ [e] } := by
        unfold memCells
        rw [List.set_cons_succ, List.set_append_right _ _ (by simp [hp.s8])]
        simp [hp.s8]
      rw [e2] at hbk
      exact hbk
    · have ho2 := ownsRow_setCell ho (a := ⟨b, 9, none⟩) (fun e => hnew b e rfl) vt'
      rw [hn] at ho2
      simpa [flat_app, flat_one] using ho2
    · intro k hk e
      rcases hb k e with h1 | h1
      · exact hp.nct k hk h1
      · have := (World.ownsRow.lt hp.rc k hk).2; omega
  · rcases mem_memFp.1 hq with rfl | h1 | h1
    · exact .inl hm
    · exact .inl (mem_memFp.2 (.inr (.inl h1)))
    · rcases hb q h1 with h2 | h2
      · exact .inl (mem_memFp.2 (.inr (.inr h2)))
      · exact .inr h2

/-! ### walks: check, Size, Total, Steps, Peek -/
set_option maxHeartbeats 1000000 in
theorem check_any (w : World) (b : Nat) (vc vt : Value) (m : M) (who : Int) (op : Op6) (h : MemAt w b vc vt m) :
    Calls Try.prog 126 #[.pointer (some ⟨b, 0, none⟩), .int .i64 who, .agg #[.int .i64 op.k, .int .i64 op.a, .int .u64 op.ov, .int .u64 op.os, .int .u64 op.nv, .int .u64 op.ns]] w fun e w' => e = .returned (.int .i64 (err m.cells.length who op)) ∧ Fr [] w w' := by
  obtain ⟨lc, cc, rfl⟩ := ownsRow_any h.rc
  have c0 := h.c0
  have hlt := h.blk.lt
  have hn : (m.cells.length : Int) ≤ 65536 := by have := h.few; omega
  have H := Lib.hid h
  clear h
  obtain ⟨k, a, ov, os, nv, ns⟩ := op
  dsimp only
  by_cases h1 : who < 0
  · have d1 : decide (who < 0) = true := by simp; omega
    have e : err m.cells.length who ⟨k, a, ov, os, nv, ns⟩ = 1 := by unfold err; rw [if_pos (.inl h1)]
    rw [e]; clear e
    go_enter Try.func126, Try.ntmps126
    go_wp2_with fail
    go_ret
    exact ⟨rfl, (Fr.refl [] _).alloc _⟩
  have d1 : decide (who < 0) = false := by simp; omega
  by_cases h2 : 8 ≤ who
  · have d2 : decide (who ≥ 8) = true := by simp; omega
    have e : err m.cells.length who ⟨k, a, ov, os, nv, ns⟩ = 1 := by unfold err; rw [if_pos (.inr h2)]
    rw [e]; clear e
    go_enter Try.func126, Try.ntmps126
    go_wp2_with fail
    go_ret
    exact ⟨rfl, (Fr.refl [] _).alloc _⟩
  have d2 : decide (who ≥ 8) = false := by simp; omega
  by_cases h3 : k < 0
  · have d3 : decide (k < 0) = true := by simp; omega
    have e : err m.cells.length who ⟨k, a, ov, os, nv, ns⟩ = 32 := by unfold err; rw [if_neg (by omega), if_pos (.inl h3)]
    rw [e]; clear e
    go_enter Try.func126, Try.ntmps126
    go_wp2_with fail
    go_ret
    exact ⟨rfl, (Fr.refl [] _).alloc _⟩
  have d3 : decide (k < 0) = false := by simp; omega
  by_cases h4 : 3 < k
  · have d4 : decide (k > 3) = true := by simp; omega
    have e : err m.cells.length who ⟨k, a, ov, os, nv, ns⟩ = 32 := by unfold err; rw [if_neg (by omega), if_pos (.inr h4)]
    rw [e]; clear e
    go_enter Try.func126, Try.ntmps126
    go_wp2_with fail
    go_ret
    exact ⟨rfl, (Fr.refl [] _).alloc _⟩
  have d4 : decide (k > 3) = false := by simp; omega
  by_cases h5 : a < 0
  · have d5 : decide (a < 0) = true := by simp; omega
    have e : err m.cells.length who ⟨k, a, ov, os, nv, ns⟩ = 31 := by unfold err; rw [if_neg (by omega), if_neg (by dsimp only; omega), if_pos (.inl h5)]
    rw [e]; clear e
    go_enter Try.func126, Try.ntmps126
    go_wp2_with fail
    refine wp_region_fr [(1, [0, 1, 2, 3, 4, 5, 6, 7, 8, 9, 10, 11, 12, 13])] [] (by kernel_rfl) (by kernel_rfl) ?_
    simp only [theOps, nthOp, List.map_cons, List.map_nil, Array.getD_eq_getD_getElem?, List.getElem?_toArray, List.getElem?_cons_succ, List.getElem?_cons_zero, Option.getD_some]
    repeat ((first | refine wpSegs_soft ?_ | refine wpSegs_pure ?_ | refine wpSegs_here ?_); (repeat (first | go_big_quiet_step (fail) | quiet_step (fail))); refine wpQuiet_nil ?_)
    refine wpSegs_done ?_
    go_wp2_with fail
    go_ret
    exact ⟨rfl, ((Fr.refl [] _).alloc _).drew⟩
  have d5 : decide (a < 0) = false := by simp; omega
  by_cases h6 : (m.cells.length : Int) ≤ a
  · have d6 : decide (a ≥ (m.cells.length : Int)) = true := by simp; omega
    have e : err m.cells.length who ⟨k, a, ov, os, nv, ns⟩ = 31 := by unfold err; rw [if_neg (by omega), if_neg (by dsimp only; omega), if_pos (.inr h6)]
    rw [e]; clear e
    go_enter Try.func126, Try.ntmps126
    go_wp2_with fail
    refine wp_region_fr [(1, [0, 1, 2, 3, 4, 5, 6, 7, 8, 9, 10, 11, 12, 13])] [] (by kernel_rfl) (by kernel_rfl) ?_
    simp only [theOps, nthOp, List.map_cons, List.map_nil, Array.getD_eq_getD_getElem?, List.getElem?_toArray, List.getElem?_cons_succ, List.getElem?_cons_zero, Option.getD_some]
    repeat ((first | refine wpSegs_soft ?_ | refine wpSegs_pure ?_ | refine wpSegs_here ?_); (repeat (first | go_big_quiet_step (fail) | quiet_step (fail))); refine wpQuiet_nil ?_)
    refine wpSegs_done ?_
    go_wp2_with fail
    go_ret
    exact ⟨rfl, ((Fr.refl [] _).alloc _).drew⟩
  have d6 : decide (a ≥ (m.cells.length : Int)) = false := by simp; omega
  have e : err m.cells.length who ⟨k, a, ov, os, nv, ns⟩ = 0 := by unfold err; rw [if_neg (by omega), if_neg (by dsimp only; omega), if_neg (by dsimp only; omega)]
  rw [e]; clear e
  go_enter Try.func126, Try.ntmps126
  go_wp2_with fail
  refine wp_region_fr [(1, [0, 1, 2, 3, 4, 5, 6, 7, 8, 9, 10, 11, 12, 13])] [] (by kernel_rfl) (by kernel_rfl) ?_
  simp only [theOps, nthOp, List.map_cons, List.map_nil, Array.getD_eq_getD_getElem?, List.getElem?_toArray, List.getElem?_cons_succ, List.getElem?_cons_zero, Option.getD_some]
  repeat ((first | refine wpSegs_soft ?_ | refine wpSegs_pure ?_ | refine wpSegs_here ?_); (repeat (first | go_big_quiet_step (fail) | quiet_step (fail))); refine wpQuiet_nil ?_)
  refine wpSegs_done ?_
  go_wp2_with fail
  go_ret
  exact ⟨rfl, ((Fr.refl [] _).alloc _).drew⟩

end Go.Proofs.Ytccioehckfdjdaa
