/- The walk of as: entries as the document's. -/
import Derived.Test.YtahoadnagadncaaScnew
import Derived.Test.YtahoadnagadncaaTape
import Derived.Deep.LoopGhost
set_option linter.unusedSimpArgs false
set_option linter.unusedVariables false
namespace Go.Proofs.Ytahoadnagadncaa
open Go.RowKit Go.Tum Go.Tum.Sc
theorem Sc_infoR : (Try.prog.info? 78).map (fun i => (i.zero, i.size, i.bytes)) = some (some (.agg #[.int .i64 0, .int .u64 0]), 2, 16) := by kernel_rfl
set_option maxRecDepth 100000 in
set_option maxHeartbeats 4000000 in
theorem as_any (w : World) (v : Value) (L : List (Int × Int)) (hL : ArgE enE 2 w v L) (hn : L.length ≤ 1000) :
    Calls Try.prog 11 #[v] w fun e w' => ∃ v', e = .returned v' ∧ Fresh w w' (rowT 0 78 2 v' L.length (flat enE L)) := by
  obtain ⟨a, lc, rfl⟩ := hL.len
  obtain ⟨i0, hi0, hz0, hz1, hz2⟩ := info_parts Sc_infoR
  have HL := Lib.hid hL
  have hni : (L.length : Int) ≤ 1000 := by omega
  have HS : Hid (Sep w (w.alloc (.cells #[] 78)) [rowT 0 78 2 (.slice (some ⟨w.heap.size, 0, none⟩) 0 0) 0 (flat enE (L.take 0))]) :=
    (Sep.nil (Fr.refl [] w)).fresh (T := rowT 0 78 2 (.slice (some ⟨w.heap.size, 0, none⟩) 0 0) 0 []) (w' := w.alloc (.cells #[] 78)) ⟨(Fr.refl [] w).alloc _, [w.heap.size], ⟨rfl, World.ownsRow_made w #[] 0 (Nat.zero_le _) (by unfold maxLen; omega) (by simp)⟩, by simp⟩
  clear hL
  go_enter Try.func11, Try.ntmps11
  go_wp2_with fail
  go_loopg [3, 9] L.length (fun g vo vi wr => ∃ k, g + k = L.length ∧ vi = .int .i64 (k : Int) ∧ Sep w wr [rowT 0 78 2 vo k (flat enE (L.take k))])
  case atStart => exact ⟨0, by omega, rfl, HS.out⟩
  case round =>
    clear HS
    obtain ⟨j, hgj, rfl, hS⟩ := hrel
    obtain ⟨oa, oc, rfl⟩ := hS.form 0 rfl
    by_cases hj : j < L.length
    · have hji : (j : Int) < (L.length : Int) := by omega
      obtain ⟨x, rfl, hx, c0, c1⟩ := (HL.out.fr hS.fr).at hj
      have htk : flat enE (L.take (j + 1)) = flat enE (L.take j) ++ enE L[j] := by
        rw [List.take_succ_eq_append_getElem hj, flat_app, flat_one]
      have HT := Lib.hid htk
      clear htk
      generalize L[j] = cc at *
      obtain ⟨z1, z2⟩ := cc
      have d0 := c0 _ rfl
      have d1 := c1 0 _ rfl
      have hS := (hS.new 56 [.int .i64 z1, .int .u64 z2]).new 78 [.int .i64 z1, .int .u64 z2]
      simp only [World.size_alloc] at hS
      have HS := Lib.hid hS
      clear c0 c1 hS
      have hjm : j ≤ 1000 := by omega
      go_wp2_with (at_builtin; go_must (refine wpList_push_blk _ rfl _ _ 44 rfl 0 78 i0 _ 2 16 Try.underlying44 hi0 hz0 hz1 hz2 rfl (by decide) (.slice oa j oc) j (flat enE (L.take j)) rfl (HS.out.row 2 rfl) (enE (z1, z2)) _ _ rfl (HS.out.blk 0 rfl) rfl (enE_one _) (by unfold maxLen; omega) (by omega) (Nat.zero_le _) ?_))
      intro g2 c2' w12 hown hg2 hgg hc1 hc2'
      have h3 := (HS.out.grown 2 rfl hown hg2 (fun q e => by
        rcases hgg with h1 | h1
        · exact .inl (h1.trans e)
        · right; simp only [Value.ownBlock, Option.some.injEq] at e; rw [← e, h1]; simp)).tail.tail
      rw [← HT.out] at h3
      have HS3 := Lib.hid (show Sep w w12 [rowT 0 78 2 (.slice (some ⟨g2, 0, none⟩) (j + 1) c2') (j + 1) (flat enE (L.take (j + 1)))] from h3)
      clear h3 hown hg2 hgg HS HT
      go_wp2_with fail
      go_roundg (L.length - (j + 1))
      case measure => omega
      case rel => exact ⟨j + 1, by omega, by go_num, HS3.out⟩
    · obtain rfl : j = L.length := by omega
      go_wp2_with fail
      go_ret
      rw [List.take_of_length_le (Nat.le_refl _)] at hS
      exact ⟨_, rfl, hS.toFresh⟩
end Go.Proofs.Ytahoadnagadncaa
