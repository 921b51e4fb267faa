/- The walks of package cell but Do and Clone. -/
import Derived.Test.YtccioehckfdjdaaCdo
import Derived.OwnWalk
set_option linter.unusedSimpArgs false
namespace Go.Proofs.Ytccioehckfdjdaa
open Go.RowKit Go.Tum Go.Tum.C

theorem size_any (w : World) (b : Nat) (vc vt : Value) (m : M) (h : MemAt w b vc vt m) :
    Calls Try.prog 77 #[.pointer (some ⟨b, 0, none⟩)] w fun e w' => e = .returned (.int .i64 m.cells.length) ∧ w = w' := by
  obtain ⟨lc, cc, rfl⟩ := ownsRow_any h.rc
  have c0 := h.c0
  clear h
  go_enter Try.func77, Try.ntmps77
  go_wp2
  go_ret
  exact ⟨rfl, rfl⟩
theorem total_any (w : World) (b : Nat) (vc vt : Value) (m : M) (h : MemAt w b vc vt m) :
    Calls Try.prog 72 #[.pointer (some ⟨b, 0, none⟩)] w fun e w' => e = .returned (.int .i64 m.trace.length) ∧ w = w' := by
  obtain ⟨lc, cc, rfl⟩ := ownsRow_any h.rt
  have c0 := h.c9
  clear h
  go_enter Try.func72, Try.ntmps72
  go_wp2
  go_ret
  exact ⟨rfl, rfl⟩

/-- How many steps a thread has done; 0 of one that there isn't. -/
def stepsOf (m : M) (who : Int) : Int := if 0 ≤ who ∧ who < 8 then m.cnt who.toNat else 0

/-- A cell; is there one? -/
def peek (m : M) (at_ : Int) : (Int × Int) × Bool := if 0 ≤ at_ ∧ at_ < m.cells.length then (m.at at_.toNat, true) else ((0, 0), false)
set_option maxHeartbeats 1000000 in
theorem peek_any (w : World) (b : Nat) (vc vt : Value) (m : M) (at_ : Int) (h : MemAt w b vc vt m) :
    Calls Try.prog 78 #[.pointer (some ⟨b, 0, none⟩), .int .i64 at_] w fun e w' => e = .returned (.tuple #[.agg #[.int .u64 (peek m at_).1.1, .int .u64 (peek m at_).1.2], .bool (peek m at_).2]) ∧ Fr [] w w' := by
  have c0 := h.c0
  have hb := h.blk.lt
  have hfew := h.few
  by_cases h1 : at_ < 0
  · have e : peek m at_ = ((0, 0), false) := by unfold peek; rw [if_neg (by omega)]
    rw [e]; clear e
    have d1 : decide (at_ < 0) = true := by simp; omega
    clear h
    go_enter Try.func78, Try.ntmps78
    go_wp2
    exact bodyPost_ret (v := .tuple #[.agg #[.int .u64 0, .int .u64 0], .bool false]) (by simp [results, Try.results78, go_sem]) rfl ⟨rfl, (Fr.refl [] _).alloc _⟩
  have d1 : decide (at_ < 0) = false := by simp; omega
  by_cases h2 : (m.cells.length : Int) ≤ at_
  · have e : peek m at_ = ((0, 0), false) := by unfold peek; rw [if_neg (by omega)]
    rw [e]; clear e
    have d2 : decide (at_ ≥ (m.cells.length : Int)) = true := by simp; omega
    obtain ⟨lc, cc, rfl⟩ := ownsRow_any h.rc
    clear h
    go_enter Try.func78, Try.ntmps78
    go_wp2
    exact bodyPost_ret (v := .tuple #[.agg #[.int .u64 0, .int .u64 0], .bool false]) (by simp [results, Try.results78, go_sem]) rfl ⟨rfl, (Fr.refl [] _).alloc _⟩
  have d2 : decide (at_ ≥ (m.cells.length : Int)) = false := by simp; omega
  obtain ⟨k, rfl⟩ : ∃ n : Nat, at_ = n := ⟨at_.toNat, by omega⟩
  have hk : k < m.cells.length := by omega
  have d3 : decide (k ≥ m.cells.length) = false := by simp; omega
  have e : peek m k = (m.at k, true) := by unfold peek; rw [if_pos (by omega), Int.toNat_natCast]
  rw [e]; clear e
  obtain ⟨g, n, rfl, hgl, hgc⟩ : ∃ g n, vc = .slice (some ⟨g, 0, none⟩) m.cells.length n ∧ g < w.heap.size ∧ m.cells.length ≤ n := by
    rcases ownsRow_form h.rc with ⟨_, e⟩ | ⟨g, n, e, h1, _, h2, _⟩
    · omega
    · exact ⟨g, n, e, h1, h2⟩
  obtain ⟨x0, x1⟩ := h.cell hk
  have hki : (k : Int) < (m.cells.length : Int) := by omega
  clear h
  go_enter Try.func78, Try.ntmps78
  go_wp2
  exact bodyPost_ret (v := .tuple #[.agg #[.int .u64 (m.at k).1, .int .u64 (m.at k).2], .bool true]) (by simp [results, Try.results78, go_sem]) rfl ⟨rfl, (Fr.refl [] _).alloc _⟩

/-- A memory in which a cell was set. -/
def M.put (m : M) (at_ : Int) (c : Int × Int) : M := if 0 ≤ at_ ∧ at_ < m.cells.length then { m with cells := m.cells.set at_.toNat c } else m
def putErr (m : M) (at_ : Int) : Int := if 0 ≤ at_ ∧ at_ < m.cells.length then 0 else 31
set_option maxHeartbeats 1000000 in
theorem set_any {w0 w : World} {R : List Thing} {b : Nat} {m : M} (h : Sep w0 w (memT b m :: R)) (at_ : Int) (c : Int × Int) :
    Calls Try.prog 76 #[.pointer (some ⟨b, 0, none⟩), .int .i64 at_, .agg #[.int .u64 c.1, .int .u64 c.2]] w fun e w' => e = .returned (.int .i64 (putErr m at_)) ∧ Sep w0 w' (memT b (M.put m at_ c) :: R) := by
  obtain ⟨hG, vc, vt, hM⟩ := sep_mem h 0 rfl
  have c0 := hM.c0
  have hb := hM.blk.lt
  have hfew := hM.few
  obtain ⟨u, v⟩ := c
  dsimp only
  by_cases h1 : at_ < 0
  · have e : putErr m at_ = 31 ∧ M.put m at_ (u, v) = m := by unfold putErr M.put; rw [if_neg (by omega), if_neg (by omega)]; exact ⟨rfl, rfl⟩
    rw [e.1, e.2]; clear e
    have d1 : decide (at_ < 0) = true := by simp; omega
    clear hM
    have H := Lib.hid h; clear h
    go_enter Try.func76, Try.ntmps76
    go_wp2
    go_ret
    exact ⟨rfl, H.out.alloc _⟩
  have d1 : decide (at_ < 0) = false := by simp; omega
  by_cases h2 : (m.cells.length : Int) ≤ at_
  · have e : putErr m at_ = 31 ∧ M.put m at_ (u, v) = m := by unfold putErr M.put; rw [if_neg (by omega), if_neg (by omega)]; exact ⟨rfl, rfl⟩
    rw [e.1, e.2]; clear e
    have d2 : decide (at_ ≥ (m.cells.length : Int)) = true := by simp; omega
    obtain ⟨lc, cc, rfl⟩ := ownsRow_any hM.rc
    clear hM
    have H := Lib.hid h; clear h
    go_enter Try.func76, Try.ntmps76
    go_wp2
    go_ret
    exact ⟨rfl, H.out.alloc _⟩
  have d2 : decide (at_ ≥ (m.cells.length : Int)) = false := by simp; omega
  clear hM c0 hb hfew
  obtain ⟨k, rfl⟩ : ∃ n : Nat, at_ = n := ⟨at_.toNat, by omega⟩
  have hk : k < m.cells.length := by omega
  have d3 : decide (k ≥ m.cells.length) = false := by simp; omega
  have e : putErr m k = 0 ∧ M.put m k (u, v) = { m with cells := m.cells.set k (u, v) } := by unfold putErr M.put; rw [if_pos (by omega), if_pos (by omega), Int.toNat_natCast]; exact ⟨rfl, rfl⟩
  rw [e.1, e.2]; clear e
  obtain ⟨_, vc, vt, h⟩ := open_mem h
  have hM := sep_raw h 0 rfl
  obtain ⟨g, n, rfl, hgl, hgc⟩ : ∃ g n, vc = .slice (some ⟨g, 0, none⟩) m.cells.length n ∧ g < w.heap.size ∧ m.cells.length ≤ n := by
    rcases ownsRow_form hM.rc with ⟨_, e⟩ | ⟨g, n, e, h1, _, h2, _⟩
    · omega
    · exact ⟨g, n, e, h1, h2⟩
  have c0 := hM.c0
  have hb := hM.blk.lt
  obtain ⟨x0, x1⟩ := hM.cell hk
  have f0 := hM.frozC (k * 2)
  have f1 := hM.frozC (k * 2 + 1)
  have hki : (k : Int) < (m.cells.length : Int) := by omega
  have H := Lib.hid h; have HG := Lib.hid hG
  clear h hG hM
  go_enter Try.func76, Try.ntmps76
  go_wp2
  refine wp_region_fr [(1, [0, 1, 2, 3, 4, 5, 6]), (3, [7])] [] (by kernel_rfl) (by kernel_rfl) ?_
  simp only [theOps, nthOp, List.map_cons, List.map_nil, Array.getD_eq_getD_getElem?, List.getElem?_toArray, List.getElem?_cons_succ, List.getElem?_cons_zero, Option.getD_some]
  repeat ((first | refine wpSegs_soft ?_ | refine wpSegs_pure ?_ | refine wpSegs_here ?_); (repeat (first | go_big_quiet_step (fail) | quiet_step (fail))); refine wpQuiet_nil ?_)
  refine wpSegs_hard ?_
  go_wp2_with fail
  refine wpSegs_done ?_
  go_wp2_with fail
  go_ret
  exact ⟨rfl, shut_mem ((sep_setC H.out 0 rfl hk u v).alloc _).drew ⟨HG.out.s8, HG.out.count⟩⟩

/-! ### New -/
theorem made_cells (n : Nat) : (madeCells (Value.agg #[.int .u64 0, .int .u64 0]).cells (n * 2)).toList = flat enC (List.replicate n ((0 : Int), (0 : Int))) := by
  refine flat_ext enC_len _ (by simp [madeCells]) fun i hi j hj => ?_
  rw [List.length_replicate] at hi
  have hx : i * 2 + j < n * 2 := by omega
  simp only [madeCells, Value.cells]
  rw [Array.getElem?_toList, Array.getElem?_map, Array.getElem?_range]
  rw [if_pos hx]
  simp only [Option.map_some, List.getElem_replicate]
  rcases (show j = 0 ∨ j = 1 by omega) with rfl | rfl
  · rw [show (i * 2 + 0) % (#[Value.int .u64 0, Value.int .u64 0] : Array Value).size = 0 from by simp]; rfl
  · rw [show (i * 2 + 1) % (#[Value.int .u64 0, Value.int .u64 0] : Array Value).size = 1 from by simp]; rfl

def newM (n : Nat) : M := ⟨List.replicate n (0, 0), List.replicate 8 0, []⟩
theorem new_bad (size : Int) (w : World) (h : size < 0 ∨ 65536 < size) :
    Calls Try.prog 132 #[.int .i64 size] w fun e w' => e = .returned (.tuple #[.pointer none, .int .i64 1]) ∧ w = w' := by
  rcases h with h | h
  · have d1 : decide (size < 0) = true := by simp; omega
    go_enter Try.func132, Try.ntmps132
    go_wp2
    go_ret2
    exact ⟨rfl, rfl⟩
  · have d1 : decide (size < 0) = false := by simp; omega
    have d2 : decide (size > 65536) = true := by simp; omega
    go_enter Try.func132, Try.ntmps132
    go_wp2
    go_ret2
    exact ⟨rfl, rfl⟩
set_option maxHeartbeats 400000 in
theorem new_any (w : World) (n : Nat) (hn : n ≤ 65536) :
    Calls Try.prog 132 #[.int .i64 n] w fun e w' => ∃ b, e = .returned (.tuple #[.pointer (some ⟨b, 0, none⟩), .int .i64 0]) ∧ Fresh w w' (memT b (newM n)) := by
  obtain ⟨i0, hi0, hz0, hz1, hz2⟩ := info_parts C_infoCell
  have d1 : decide ((n : Int) < 0) = false := by simp
  have d2 : decide ((n : Int) > 65536) = false := by simp; omega
  have hni : (n : Int) ≤ 65536 := by omega
  go_enter Try.func132, Try.ntmps132
  go_wp2_with (at_make; refine wpList_make_full _ rfl _ _ 195 rfl 0 41 i0 _ 2 Try.underlying195 hi0 hz0 hz1 .i64 .i64 _ _ n rfl rfl rfl rfl (by rw [hz2]; omega) (by unfold maxLen; omega) (Nat.zero_le _) ?_; intro w1 ho hg1)
  go_ret2
  rw [made_cells] at ho
  have hs := hg1.size
  have f : Fr [] w w1 := (Fr.refl [] w).grown hg1 (fun k e => by cases e)
  have hgl := (World.ownsRow.lt ho w.heap.size rfl).2
  refine ⟨_, rfl, f.alloc _, memFp w1.heap.size (.slice (some ⟨w.heap.size, 0, none⟩) n n) (.slice none 0 0), ?_, ?_⟩
  · refine ⟨good_new n, _, _, rfl, Blk.new _ _ _, ?_, World.ownsRow_nil _ _ _ _, ?_, by simp [Value.ownBlock], by simp [Value.ownBlock], by simpa [newM] using hn, rfl⟩
    · have := World.ownsRow.alloc ho (.cells #[.slice (some ⟨w.heap.size, 0, none⟩) n n, .int .i64 0, .int .i64 0, .int .i64 0, .int .i64 0, .int .i64 0, .int .i64 0, .int .i64 0, .int .i64 0, .slice none 0 0] 198)
      simpa [newM] using this
    · intro k hk; simp [Value.ownBlock] at hk; omega
  · intro k hk
    rcases mem_memFp.1 hk with rfl | h1 | h1
    · exact hs
    · simp [Value.ownBlock] at h1; omega
    · simp [Value.ownBlock] at h1

/-! ### copies of slices -/
/-- A new slice that holds the same. -/
theorem cloneC_nil (w : World) :
    Calls Try.prog 127 #[.slice none 0 0] w fun e w' => ∃ v, e = .returned v ∧ Fresh w w' (rowT 0 41 2 v 0 []) := by
  have hk := fun (wx : World) => Lib.run_eql_slice_nil (P := Try.prog) wx 195 41 none 0 0 0 0 Try.underlying195
  go_enter Try.func127, Try.ntmps127
  go_wp2
  go_ret
  exact ⟨_, rfl, Fr.refl _ _, [], ⟨rfl, World.ownsRow_nil _ _ _ _⟩, by simp⟩
set_option maxHeartbeats 400000 in
theorem cloneC_some (w : World) (g n c : Nat) (l : List Value) (hl : l.length = n * 2) (h1 : ∀ u ∈ l, u.oneCell' = true) (hr : w.ownsRow 0 41 2 (.slice (some ⟨g, 0, none⟩) n c) n l) (hn : n ≤ 1000000) :
    Calls Try.prog 127 #[.slice (some ⟨g, 0, none⟩) n c] w fun e w' => ∃ v, e = .returned v ∧ Fresh w w' (rowT 0 41 2 v n l) := by
  obtain ⟨i0, hi0, hz0, hz1, hz2⟩ := info_parts C_infoCell
  have hk := fun (wx : World) => Lib.run_eql_slice_nil (P := Try.prog) wx 195 41 (some ⟨g, 0, none⟩) n c 0 0 Try.underlying195
  have HR : Hid ((w.alloc (.cells [].toArray 41)).ownsRow 0 41 2 (.slice (some ⟨w.heap.size, 0, none⟩) 0 0) 0 []) :=
    World.ownsRow_made w #[] 0 (Nat.zero_le _) (by unfold maxLen; omega) (by simp)
  have HH := Lib.hid hr
  clear hr
  go_enter Try.func127, Try.ntmps127
  go_wp2_with (at_builtin; go_must (refine wpList_append_at _ rfl _ _ 195 rfl 0 41 i0 _ 2 16 Try.underlying195 hi0 hz0 hz1 hz2 rfl (by decide) (.slice (some ⟨w.heap.size, 0, none⟩) 0 0) 0 [] rfl HR.out ⟨g, 0, none⟩ n c l rfl hl ((HH.out.alloc _).cells rfl) h1 (by unfold maxLen; omega) (by omega) (Nat.zero_le _) (by simp) ?_))
  intro g2 c2 w2 hown hg2 hgg hc1 hc2
  go_wp2
  go_ret
  refine ⟨_, rfl, ((Fr.refl [] w).alloc (.cells #[] 41)).grown hg2 (fun k e => .inr (by simp [Value.ownBlock] at e; omega)), [g2], ⟨rfl, by simpa using hown⟩, ?_⟩
  intro k hk
  simp [Value.ownBlock] at hk hgg
  omega
theorem cloneC_any (w : World) (v : Value) (n : Nat) (l : List Value) (hl : l.length = n * 2) (h1 : ∀ u ∈ l, u.oneCell' = true) (hr : w.ownsRow 0 41 2 v n l) (hn : n ≤ 1000000) :
    Calls Try.prog 127 #[v] w fun e w' => ∃ v', e = .returned v' ∧ Fresh w w' (rowT 0 41 2 v' n l) := by
  rcases ownsRow_form hr with ⟨rfl, rfl⟩ | ⟨g, c, rfl, _⟩
  · obtain rfl : l = [] := List.eq_nil_of_length_eq_zero (by omega)
    exact cloneC_nil w
  · exact cloneC_some w g n c l hl h1 hr hn
/-- A new slice that holds the same. -/
theorem cloneE_nil (w : World) :
    Calls Try.prog 128 #[.slice none 0 0] w fun e w' => ∃ v, e = .returned v ∧ Fresh w w' (rowT 0 134 10 v 0 []) := by
  have hk := fun (wx : World) => Lib.run_eql_slice_nil (P := Try.prog) wx 131 134 none 0 0 0 0 Try.underlying131
  go_enter Try.func128, Try.ntmps128
  go_wp2
  go_ret
  exact ⟨_, rfl, Fr.refl _ _, [], ⟨rfl, World.ownsRow_nil _ _ _ _⟩, by simp⟩
set_option maxHeartbeats 400000 in
theorem cloneE_some (w : World) (g n c : Nat) (l : List Value) (hl : l.length = n * 10) (h1 : ∀ u ∈ l, u.oneCell' = true) (hr : w.ownsRow 0 134 10 (.slice (some ⟨g, 0, none⟩) n c) n l) (hn : n ≤ 1000000) :
    Calls Try.prog 128 #[.slice (some ⟨g, 0, none⟩) n c] w fun e w' => ∃ v, e = .returned v ∧ Fresh w w' (rowT 0 134 10 v n l) := by
  obtain ⟨i0, hi0, hz0, hz1, hz2⟩ := info_parts C_infoEvent
  have hk := fun (wx : World) => Lib.run_eql_slice_nil (P := Try.prog) wx 131 134 (some ⟨g, 0, none⟩) n c 0 0 Try.underlying131
  have HR : Hid ((w.alloc (.cells [].toArray 134)).ownsRow 0 134 10 (.slice (some ⟨w.heap.size, 0, none⟩) 0 0) 0 []) :=
    World.ownsRow_made w #[] 0 (Nat.zero_le _) (by unfold maxLen; omega) (by simp)
  have HH := Lib.hid hr
  clear hr
  go_enter Try.func128, Try.ntmps128
  go_wp2_with (at_builtin; go_must (refine wpList_append_at _ rfl _ _ 131 rfl 0 134 i0 _ 10 80 Try.underlying131 hi0 hz0 hz1 hz2 rfl (by decide) (.slice (some ⟨w.heap.size, 0, none⟩) 0 0) 0 [] rfl HR.out ⟨g, 0, none⟩ n c l rfl hl ((HH.out.alloc _).cells rfl) h1 (by unfold maxLen; omega) (by omega) (Nat.zero_le _) (by simp) ?_))
  intro g2 c2 w2 hown hg2 hgg hc1 hc2
  go_wp2
  go_ret
  refine ⟨_, rfl, ((Fr.refl [] w).alloc (.cells #[] 134)).grown hg2 (fun k e => .inr (by simp [Value.ownBlock] at e; omega)), [g2], ⟨rfl, by simpa using hown⟩, ?_⟩
  intro k hk
  simp [Value.ownBlock] at hk hgg
  omega
theorem cloneE_any (w : World) (v : Value) (n : Nat) (l : List Value) (hl : l.length = n * 10) (h1 : ∀ u ∈ l, u.oneCell' = true) (hr : w.ownsRow 0 134 10 v n l) (hn : n ≤ 1000000) :
    Calls Try.prog 128 #[v] w fun e w' => ∃ v', e = .returned v' ∧ Fresh w w' (rowT 0 134 10 v' n l) := by
  rcases ownsRow_form hr with ⟨rfl, rfl⟩ | ⟨g, c, rfl, _⟩
  · obtain rfl : l = [] := List.eq_nil_of_length_eq_zero (by omega)
    exact cloneE_nil w
  · exact cloneE_some w g n c l hl h1 hr hn

theorem events_any (w : World) (b : Nat) (vc vt : Value) (m : M) (hM : MemAt w b vc vt m) (ht : m.trace.length ≤ 100000) :
    Calls Try.prog 75 #[.pointer (some ⟨b, 0, none⟩)] w fun e w' => ∃ v, e = .returned v ∧ Fresh w w' (rowT 0 134 10 v m.trace.length (flat enEv m.trace)) := by
  have c9 := hM.c9
  have HC := Lib.hid (cloneE_any w vt _ _ (flat_length enEv_len _) (flat_one_cell enEv_one _) hM.rt (by omega))
  clear hM
  go_enter Try.func75, Try.ntmps75
  go_wp2_with fail
  refine HC.out.mono ?_
  rintro e w' ⟨v, rfl, hS⟩
  go_wp2_with fail
  go_ret
  exact ⟨v, rfl, hS⟩

set_option maxHeartbeats 1000000 in
theorem copy_any (w : World) (b : Nat) (vc vt : Value) (m : M) (hM : MemAt w b vc vt m) (hG : C.Good m) (ht : m.trace.length ≤ 100000) :
    Calls Try.prog 73 #[.pointer (some ⟨b, 0, none⟩)] w fun e w' => ∃ b', e = .returned (.pointer (some ⟨b', 0, none⟩)) ∧ Fresh w w' (memT b' m) := by
  have c0 := hM.c0
  have c9 := hM.c9
  have hb := hM.blk.lt
  obtain ⟨cs, st, tr⟩ := m
  have h8 := hG.s8
  dsimp only at h8
  match st, h8 with
  | [s0, s1, s2, s3, s4, s5, s6, s7], _ =>
  have m0 : w.cell? ⟨b, 1, none⟩ = some (.int .i64 s0) := hM.cs (i := 0) (by decide)
  have m1 : w.cell? ⟨b, 2, none⟩ = some (.int .i64 s1) := hM.cs (i := 1) (by decide)
  have m2 : w.cell? ⟨b, 3, none⟩ = some (.int .i64 s2) := hM.cs (i := 2) (by decide)
  have m3 : w.cell? ⟨b, 4, none⟩ = some (.int .i64 s3) := hM.cs (i := 3) (by decide)
  have m4 : w.cell? ⟨b, 5, none⟩ = some (.int .i64 s4) := hM.cs (i := 4) (by decide)
  have m5 : w.cell? ⟨b, 6, none⟩ = some (.int .i64 s5) := hM.cs (i := 5) (by decide)
  have m6 : w.cell? ⟨b, 7, none⟩ = some (.int .i64 s6) := hM.cs (i := 6) (by decide)
  have m7 : w.cell? ⟨b, 8, none⟩ = some (.int .i64 s7) := hM.cs (i := 7) (by decide)
  have HM := Lib.hid hM; have HG := Lib.hid hG
  have hfew : cs.length ≤ 65536 := hM.few
  dsimp only at ht
  clear hM hG
  go_enter Try.func73, Try.ntmps73
  go_wp2
  refine wp_region_fr [(1, [0, 1, 2, 3, 5, 6, 7, 8, 9, 10, 11, 12]), (2, [4]), (2, [13]), (0, [14]), (3, [15]), (0, [16])] [] (by kernel_rfl) (by kernel_rfl) ?_
  simp only [theOps, nthOp, List.map_cons, List.map_nil, Array.getD_eq_getD_getElem?, List.getElem?_toArray, List.getElem?_cons_succ, List.getElem?_cons_zero, Option.getD_some]
  repeat ((first | refine wpSegs_soft ?_ | refine wpSegs_pure ?_ | refine wpSegs_here ?_); (repeat (first | go_big_quiet_step (fail) | quiet_step (fail))); refine wpQuiet_nil ?_)
  refine wpSegs_keep ?_
  go_wp2_with fail
  refine (cloneC_any _ vc _ _ (flat_length enC_len _) (flat_one_cell enC_one _) (HM.out.fr (Fr.refl [] _).drew (by simp)).rc (by dsimp only; omega)).mono ?_
  rintro e w1 ⟨v1, rfl, hF1⟩
  obtain ⟨l1, n1, rfl⟩ := hF1.form
  have HF1 := Lib.hid hF1; clear hF1
  go_wp2_with fail
  refine ⟨⟨⟨_, (by exact HF1.out.fr)⟩, rfl⟩, ?_⟩
  refine wpSegs_keep ?_
  go_wp2_with fail
  refine (cloneE_any _ vt _ _ (flat_length enEv_len _) (flat_one_cell enEv_one _) ((HM.out.fr (Fr.refl [] _).drew (by simp)).fr HF1.out.fr (by simp)).rt (by dsimp only; omega)).mono ?_
  rintro e w2 ⟨v2, rfl, hF2⟩
  obtain ⟨l2, n2, rfl⟩ := hF2.form
  have HF2 := Lib.hid hF2; clear hF2
  go_wp2_with fail
  refine ⟨⟨⟨_, (by exact HF1.out.fr.trans HF2.out.fr)⟩, rfl⟩, ?_⟩
  repeat ((first | refine wpSegs_soft ?_ | refine wpSegs_pure ?_ | refine wpSegs_here ?_); (repeat (first | go_big_quiet_step (fail) | quiet_step (fail))); refine wpQuiet_nil ?_)
  refine wpSegs_hard ?_
  go_wp2_with fail
  repeat ((first | refine wpSegs_soft ?_ | refine wpSegs_pure ?_ | refine wpSegs_here ?_); (repeat (first | go_big_quiet_step (fail) | quiet_step (fail))); refine wpQuiet_nil ?_)
  refine wpSegs_done ?_
  go_wp2_with fail
  go_ret
  have h2 := ((Sep.nil (Fr.refl [] w.drew)).fresh HF1.out).fresh HF2.out
  have h3 := h2.new 198 (memCells (.slice l1 cs.length n1) (.slice l2 tr.length n2) ⟨cs, [s0, s1, s2, s3, s4, s5, s6, s7], tr⟩)
  refine ⟨_, rfl, (show Fr [] w.drew _ from h3.fr).from_to, memFp w2.heap.size (.slice l1 cs.length n1) (.slice l2 tr.length n2), ?_, ?_⟩
  · obtain ⟨h0, F, hF, hd⟩ := h3
    have p0 := (hF 0 _ rfl).1
    have p1 := (hF 1 _ rfl).1
    have p2 := (hF 2 _ rfl).1
    have d01 := hd 0 1 (by simp) (by simp) (by decide)
    have d02 := hd 0 2 (by simp) (by simp) (by decide)
    have d12 := hd 1 2 (by simp) (by simp) (by decide)
    rw [p0.1, p1.1] at d01
    rw [p0.1, p2.1] at d02
    rw [p1.1, p2.1] at d12
    refine ⟨HG.out, _, _, rfl, p0.2, p2.2, p1.2, fun k hk e => ?_, fun k hk e => ?_, fun k hk e => ?_, hfew, rfl⟩
    · exact d02 k (by rw [e]; simp) (by rw [hk]; simp)
    · exact d01 k (by rw [e]; simp) (by rw [hk]; simp)
    · exact d12 k (by rw [e]; simp) (by rw [hk]; simp)
  · obtain ⟨h0, F, hF, hd⟩ := h3
    have q0 := hF 0 _ rfl
    have q1 := hF 1 _ rfl
    have q2 := hF 2 _ rfl
    have e0 := q0.1.1
    have e1 := q1.1.1
    have e2 := q2.1.1
    intro k hk
    rcases mem_memFp.1 hk with rfl | h1 | h1
    · exact q0.2 _ (by rw [e0]; simp)
    · exact q2.2 k (by rw [e2]; simp [h1])
    · exact q1.2 k (by rw [e1]; simp [h1])
end Go.Proofs.Ytccioehckfdjdaa
