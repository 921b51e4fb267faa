/- A shared memory in which no step was done: New, Set, Peek, Size, Total. -/
import Derived.Test.YtccioehckfdjdaaChecked
import Derived.Test.YtccioehckfdjdaaSep
import Derived.Test.YtccioehckfdjdaaPush
import Derived.Test.YtccioehckfdjdaaRegion
import Derived.OwnWalk
set_option linter.unusedSimpArgs false
set_option linter.unusedVariables false
namespace Go.Tum
def enC (c : Int × Int) : List Value := [.int .u64 c.1, .int .u64 c.2]
theorem enC_len (c : Int × Int) : (enC c).length = 2 := rfl
theorem enC_one (c : Int × Int) : ∀ u ∈ enC c, u.oneCell' = true := by simp [enC, Value.oneCell']
def memL (g n cap : Nat) : List Value := [.slice (some ⟨g, 0, none⟩) n cap, .int .i64 0, .int .i64 0, .int .i64 0, .int .i64 0, .int .i64 0, .int .i64 0, .int .i64 0, .int .i64 0, .slice none 0 0]
theorem flat_set2 (l : List (Int × Int)) {k : Nat} (hk : k < l.length) (u v : Int) : ((flat enC l).set (k * 2) (.int .u64 u)).set (k * 2 + 1) (.int .u64 v) = flat enC (l.set k (u, v)) := by
  refine flat_ext enC_len _ (by simp [flat_length enC_len]) fun j hj q hq => ?_
  rw [List.length_set] at hj
  simp only [List.getElem_set]
  by_cases e : k = j
  · subst e
    rw [if_pos rfl]
    rcases (show q = 0 ∨ q = 1 by omega) with rfl | rfl
    · rw [List.getElem?_set_ne (by omega), Nat.add_zero, List.getElem?_set_self (by rw [flat_length enC_len]; omega)]; rfl
    · rw [List.getElem?_set_self (by rw [List.length_set, flat_length enC_len]; omega)]; rfl
  · rw [if_neg e, List.getElem?_set_ne (by omega), List.getElem?_set_ne (by omega), flat_get enC_len _ j hj q hq]
theorem flat_set1 (l : List (Int × Int)) {k : Nat} (hk : k < l.length) (u : Int) : (flat enC l).set (k * 2) (.int .u64 u) = flat enC (l.set k (u, l[k].2)) := by
  refine flat_ext enC_len _ (by simp [flat_length enC_len]) fun j hj q hq => ?_
  rw [List.length_set] at hj
  simp only [List.getElem_set]
  by_cases e : k = j
  · subst e
    rw [if_pos rfl]
    rcases (show q = 0 ∨ q = 1 by omega) with rfl | rfl
    · rw [Nat.add_zero, List.getElem?_set_self (by rw [flat_length enC_len]; omega)]; rfl
    · rw [List.getElem?_set_ne (by omega), flat_get enC_len _ k hj 1 (by decide)]; rfl
  · rw [if_neg e, List.getElem?_set_ne (by omega), flat_get enC_len _ j hj q hq]
theorem cells_of {w : World} {base : Nat} {e : TypeId} {g n cap : Nat} {l : List (Int × Int)} (h : w.ownsRow base e 2 (.slice (some ⟨g, 0, none⟩) n cap) n (flat enC l)) {k : Nat} (hk : k < l.length) :
    w.cell? ⟨g, k * 2, none⟩ = some (.int .u64 l[k].1) ∧ w.cell? ⟨g, k * 2 + 1, none⟩ = some (.int .u64 l[k].2) :=
  ⟨ownsRow_cell h _ _ (by have := flat_get enC_len l k hk 0 (by decide); simpa [enC] using this), ownsRow_cell h _ _ (by have := flat_get enC_len l k hk 1 (by decide); simpa [enC] using this)⟩
end Go.Tum
namespace Go.Proofs.Ytccioehckfdjdaa
open Go.RowKit Go.Tum

theorem M_infoCell : (Try.prog.info? 41).map (fun i => (i.zero, i.size, i.bytes)) = some (some (.agg #[.int .u64 0, .int .u64 0]), 2, 16) := by kernel_rfl

theorem mm_size (w : World) (b g n cap : Nat) (h : Blk w b 198 (memL g n cap)) :
    Calls Try.prog 77 #[.pointer (some ⟨b, 0, none⟩)] w fun e w' => e = .returned (.int .i64 n) ∧ w' = w := by
  have c0 : w.cell? ⟨b, 0, none⟩ = some (.slice (some ⟨g, 0, none⟩) n cap) := h.cell 0
  clear h
  go_enter Try.func77, Try.ntmps77
  go_wp2
  go_ret
  exact ⟨rfl, rfl⟩
theorem mm_total (w : World) (b g n cap : Nat) (h : Blk w b 198 (memL g n cap)) :
    Calls Try.prog 72 #[.pointer (some ⟨b, 0, none⟩)] w fun e w' => e = .returned (.int .i64 0) ∧ w' = w := by
  have c0 : w.cell? ⟨b, 9, none⟩ = some (.slice none 0 0) := h.cell 9
  clear h
  go_enter Try.func72, Try.ntmps72
  go_wp2
  go_ret
  exact ⟨rfl, rfl⟩
set_option maxHeartbeats 1000000 in
theorem mm_peek (w : World) (b g n cap : Nat) (l : List (Int × Int)) (hl : l.length = n) (h : Blk w b 198 (memL g n cap)) (hr : w.ownsRow 0 41 2 (.slice (some ⟨g, 0, none⟩) n cap) n (flat enC l)) (k : Nat) (hk : k < l.length) (hf : n ≤ 65536) :
    Calls Try.prog 78 #[.pointer (some ⟨b, 0, none⟩), .int .i64 k] w fun e w' => e = .returned (.tuple #[.agg #[.int .u64 l[k].1, .int .u64 l[k].2], .bool true]) ∧ Fr [] w w' := by
  have c0 : w.cell? ⟨b, 0, none⟩ = some (.slice (some ⟨g, 0, none⟩) n cap) := h.cell 0
  have hb := h.lt
  have hg := (World.ownsRow.lt hr g rfl).2
  have hki : (k : Int) < (n : Int) := by omega
  have d1 : decide ((k : Int) < 0) = false := by simp
  have d2 : decide ((k : Int) ≥ (n : Int)) = false := by simp; omega
  have d3 : decide (k ≥ n) = false := by simp; omega
  obtain ⟨x0, x1⟩ := cells_of hr hk
  generalize l[k] = c at *
  clear h hr
  go_enter Try.func78, Try.ntmps78
  go_wp2
  exact bodyPost_ret (v := .tuple #[.agg #[.int .u64 c.1, .int .u64 c.2], .bool true]) (by simp [results, Try.results78, go_sem]) rfl ⟨rfl, (Fr.refl [] _).alloc _⟩
set_option maxHeartbeats 1000000 in
theorem mm_set {w0 w : World} {R : List Thing} {b g n cap : Nat} {l : List (Int × Int)} (h : Sep w0 w (blkT b 198 (memL g n cap) :: rowT 0 41 2 (.slice (some ⟨g, 0, none⟩) n cap) n (flat enC l) :: R)) (hl : l.length = n) (hf : n ≤ 65536) (k : Nat) (hk : k < n) (u v : Int) :
    Calls Try.prog 76 #[.pointer (some ⟨b, 0, none⟩), .int .i64 k, .agg #[.int .u64 u, .int .u64 v]] w fun e w' => e = .returned (.int .i64 0) ∧ Sep w0 w' (blkT b 198 (memL g n cap) :: rowT 0 41 2 (.slice (some ⟨g, 0, none⟩) n cap) n (flat enC (l.set k (u, v))) :: R) := by
  have c0 : w.cell? ⟨b, 0, none⟩ = some (.slice (some ⟨g, 0, none⟩) n cap) := (h.blk 0 rfl).cell 0
  have hb := (h.blk 0 rfl).lt
  have hr := h.row 1 rfl
  have hg := (World.ownsRow.lt hr g rfl).2
  have hki : (k : Int) < (n : Int) := by omega
  have d1 : decide ((k : Int) < 0) = false := by simp
  have d2 : decide ((k : Int) ≥ (n : Int)) = false := by simp; omega
  have d3 : decide (k ≥ n) = false := by simp; omega
  obtain ⟨x0, x1⟩ := cells_of hr (k := k) (by omega)
  have f0 := ownsRow_froz hr (k * 2)
  have f1 := ownsRow_froz hr (k * 2 + 1)
  have hs := (h.setRow 1 rfl (k * 2) (.int .u64 u)).setRow 1 rfl (k * 2 + 1) (.int .u64 v)
  simp only [List.set_cons_zero, List.set_cons_succ, flat_set2 l (show k < l.length by omega)] at hs
  have HS := Lib.hid hs
  generalize l[k]'(by omega) = c at *
  clear h hr hs
  go_enter Try.func76, Try.ntmps76
  go_wp2
  refine wp_region_fr [(1, [0, 1, 2, 3, 4, 5, 6]), (3, [7])] [] (by kernel_rfl) (by kernel_rfl) ?_
  simp only [theOps, nthOp, List.map_cons, List.map_nil, Array.getD_eq_getD_getElem?, List.getElem?_toArray, List.getElem?_cons_succ, List.getElem?_cons_zero, Option.getD_some]
  repeat ((first | refine wpSegs_soft ?_ | refine wpSegs_pure ?_ | refine wpSegs_here ?_); (repeat (first | go_big_quiet_step (fail) | quiet_step (fail))); refine wpQuiet_nil ?_)
  refine wpSegs_hard ?_
  go_wp2_with fail
  refine wpSegs_done ?_
  go_wp2_with fail
  go_ret
  exact ⟨rfl, (HS.out.alloc _).drew⟩
theorem mm_setA {w0 w : World} {R : List Thing} {b g n cap : Nat} {l : List (Int × Int)} (h : Sep w0 w (blkT b 198 (memL g n cap) :: rowT 0 41 2 (.slice (some ⟨g, 0, none⟩) n cap) n (flat enC l) :: R)) (hl : l.length = n) (hf : n ≤ 65536) {a : Int} (k : Nat) (ha : a = k) (hk : k < n) (u v : Int) :
    Calls Try.prog 76 #[.pointer (some ⟨b, 0, none⟩), .int .i64 a, .agg #[.int .u64 u, .int .u64 v]] w fun e w' => e = .returned (.int .i64 0) ∧ Sep w0 w' (blkT b 198 (memL g n cap) :: rowT 0 41 2 (.slice (some ⟨g, 0, none⟩) n cap) n (flat enC (l.set k (u, v))) :: R) := by
  subst ha; exact mm_set h hl hf k hk u v
theorem mm_made (n : Nat) : (madeCells (Value.agg #[.int .u64 0, .int .u64 0]).cells (n * 2)).toList = flat enC (List.replicate n ((0 : Int), (0 : Int))) := by
  refine flat_ext enC_len _ (by simp [madeCells]) fun i hi j hj => ?_
  rw [List.length_replicate] at hi
  have hx : i * 2 + j < n * 2 := by omega
  simp only [madeCells, Value.cells]
  rw [Array.getElem?_toList, Array.getElem?_map, Array.getElem?_range]
  rw [if_pos hx]
  simp only [Option.map_some, List.getElem_replicate]
  rcases (show j = 0 ∨ j = 1 by omega) with rfl | rfl
  · rw [show (i * 2 + 0) % (#[Value.int .u64 0, Value.int .u64 0] : Array Value).size = 0 from by simp]; rfl
  · rw [show (i * 2 + 1) % (#[Value.int .u64 0, Value.int .u64 0] : Array Value).size = 1 from by simp]; rfl
set_option maxHeartbeats 400000 in
theorem mm_new (w : World) (n : Nat) (hn : n ≤ 65536) :
    Calls Try.prog 132 #[.int .i64 n] w fun e w' => ∃ b g cap, e = .returned (.tuple #[.pointer (some ⟨b, 0, none⟩), .int .i64 0]) ∧ Sep w w' [blkT b 198 (memL g n cap), rowT 0 41 2 (.slice (some ⟨g, 0, none⟩) n cap) n (flat enC (List.replicate n (0, 0)))] := by
  obtain ⟨i0, hi0, hz0, hz1, hz2⟩ := info_parts M_infoCell
  have d1 : decide ((n : Int) < 0) = false := by simp
  have d2 : decide ((n : Int) > 65536) = false := by simp; omega
  have hni : (n : Int) ≤ 65536 := by omega
  go_enter Try.func132, Try.ntmps132
  go_wp2_with (at_make; refine wpList_make_full _ rfl _ _ 195 rfl 0 41 i0 _ 2 Try.underlying195 hi0 hz0 hz1 .i64 .i64 _ _ n rfl rfl rfl rfl (by rw [hz2]; omega) (by unfold maxLen; omega) (Nat.zero_le _) ?_; intro w1 ho hg1)
  go_ret2
  rw [mm_made] at ho
  have f : Fr [] w w1 := (Fr.refl [] w).grown hg1 (fun k e => by cases e)
  have hs := (Sep.nil (Fr.refl [] w)).push f (T := rowT 0 41 2 (.slice (some ⟨w.heap.size, 0, none⟩) n n) n (flat enC (List.replicate n (0, 0)))) (fp := [w.heap.size]) ⟨rfl, ho⟩ (by simp)
  exact ⟨_, _, _, rfl, hs.new 198 (memL w.heap.size n n)⟩
end Go.Proofs.Ytccioehckfdjdaa
