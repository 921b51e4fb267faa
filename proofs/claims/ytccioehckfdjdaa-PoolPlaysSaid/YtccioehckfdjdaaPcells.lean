/- law10's cells, sample, all. -/
import Derived.Test.YtccioehckfdjdaaMBase
import Derived.Test.YtccioehckfdjdaaPset
import Derived.Test.YtccioehckfdjdaaTape
import Derived.Test.YtccioehckfdjdaaYat
set_option linter.unusedSimpArgs false
set_option linter.unusedVariables false
namespace Go.Tum
def enU (x : Int) : List Value := [.int .u64 x]
def fives (l : List Int) : List O3 := l.map fun x => ⟨x, 5, true⟩
end Go.Tum
namespace Go.Proofs.Ytccioehckfdjdaa
open Go.RowKit Go.Tum Go.Tum.W
theorem P_infoOut : (Try.prog.info? 55).map (fun i => (i.zero, i.size, i.bytes)) = some (some (.agg #[.int .u64 0, .int .u64 0, .bool false]), 3, 24) := by kernel_rfl
set_option maxRecDepth 100000 in
set_option maxHeartbeats 4000000 in
theorem cells_any (w : World) (v : Value) (l : List Int) (hL : ArgE enU 1 w v l) (hn : l.length ≤ 1000) :
    Calls Try.prog 33 #[v] w fun e w' => ∃ v', e = .returned v' ∧ Fresh w w' (rowT 0 55 3 v' l.length (flat enO (fives l))) := by
  obtain ⟨a, lc, rfl⟩ := hL.len
  obtain ⟨i0, hi0, hz0, hz1, hz2⟩ := info_parts P_infoOut
  have HL := Lib.hid hL
  have hni : (l.length : Int) ≤ 1000 := by omega
  have HS : Hid (Sep w (w.alloc (.cells #[] 55)) [rowT 0 55 3 (.slice (some ⟨w.heap.size, 0, none⟩) 0 0) 0 (flat enO (fives (l.take 0)))]) :=
    (Sep.nil (Fr.refl [] w)).fresh (T := rowT 0 55 3 (.slice (some ⟨w.heap.size, 0, none⟩) 0 0) 0 []) (w' := w.alloc (.cells #[] 55)) ⟨(Fr.refl [] w).alloc _, [w.heap.size], ⟨rfl, World.ownsRow_made w #[] 0 (Nat.zero_le _) (by unfold maxLen; omega) (by simp)⟩, by simp⟩
  clear hL
  go_enter Try.func33, Try.ntmps33
  go_wp2_with fail
  go_loopg [3, 9] l.length (fun g vo vi wr => ∃ k, g + k = l.length ∧ vi = .int .i64 (k : Int) ∧ Sep w wr [rowT 0 55 3 vo k (flat enO (fives (l.take k)))])
  case atStart => exact ⟨0, by omega, rfl, HS.out⟩
  case round =>
    clear HS
    obtain ⟨j, hgj, rfl, hS⟩ := hrel
    obtain ⟨oa, oc, rfl⟩ := hS.form 0 rfl
    by_cases hj : j < l.length
    · have hji : (j : Int) < (l.length : Int) := by omega
      obtain ⟨x, rfl, hx, c0, c1⟩ := (HL.out.fr hS.fr).at hj
      have htk : flat enO (fives (l.take (j + 1))) = flat enO (fives (l.take j)) ++ enO ⟨l[j], 5, true⟩ := by
        rw [List.take_succ_eq_append_getElem hj]; unfold fives; rw [List.map_append, flat_app]; simp [flat_one]
      have HT := Lib.hid htk
      clear htk
      generalize l[j] = z1 at *
      have d0 := c0 _ rfl
      rw [Nat.mul_one] at d0
      have hS := (hS.new 55 [.int .u64 z1, .int .u64 5, .bool true])
      have HS := Lib.hid hS
      clear c0 c1 hS
      have hjm : j ≤ 1000 := by omega
      go_wp2_with (at_builtin; go_must (refine wpList_push_blk _ rfl _ _ 26 rfl 0 55 i0 _ 3 24 Try.underlying26 hi0 hz0 hz1 hz2 rfl (by decide) (.slice oa j oc) j (flat enO (fives (l.take j))) rfl (HS.out.row 1 rfl) (enO ⟨z1, 5, true⟩) _ _ rfl (HS.out.blk 0 rfl) rfl (by simp [enO, Value.oneCell']) (by unfold maxLen; omega) (by omega) (Nat.zero_le _) ?_))
      intro g2 c2' w12 hown hg2 hgg hc1 hc2'
      have h3 := (HS.out.grown 1 rfl hown hg2 (fun q e => by
        rcases hgg with h1 | h1
        · exact .inl (h1.trans e)
        · right; simp only [Value.ownBlock, Option.some.injEq] at e; rw [← e, h1]; simp)).tail
      rw [← HT.out] at h3
      have HS3 := Lib.hid (show Sep w w12 [rowT 0 55 3 (.slice (some ⟨g2, 0, none⟩) (j + 1) c2') (j + 1) (flat enO (fives (l.take (j + 1))))] from h3)
      clear h3 hown hg2 hgg HS HT
      go_wp2_with fail
      go_roundg (l.length - (j + 1))
      case measure => omega
      case rel => exact ⟨j + 1, by omega, by go_num, HS3.out⟩
    · obtain rfl : j = l.length := by omega
      go_wp2_with fail
      go_ret
      rw [List.take_of_length_le (Nat.le_refl _)] at hS
      exact ⟨_, rfl, hS.toFresh⟩
end Go.Proofs.Ytccioehckfdjdaa
