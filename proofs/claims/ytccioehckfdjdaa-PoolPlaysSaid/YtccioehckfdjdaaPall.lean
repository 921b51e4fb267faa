/- law10's all. -/
import Derived.Test.YtccioehckfdjdaaPex
set_option linter.unusedSimpArgs false
set_option linter.unusedVariables false
namespace Go.Tum
def enW (e : Int × Int) : List Value := [.int .i64 e.1, .int .u64 e.2]
theorem enW_len (e : Int × Int) : (enW e).length = 2 := rfl
theorem ents_flat (l : List (Int × Int)) : W.ents l = flat enW l := rfl
end Go.Tum
namespace Go.Proofs.Ytccioehckfdjdaa
open Go.RowKit Go.Tum Go.Tum.W
theorem P_infoE8 : (Try.prog.info? 177).map (fun i => (i.zero, i.size, i.bytes)) = some (some (.agg #[.int .i64 0, .int .u64 0]), 2, 16) := by kernel_rfl
set_option maxRecDepth 100000 in
set_option maxHeartbeats 4000000 in
theorem all10_any {w0 w : World} {R : List Thing} {k : Nat} {s : W.S} (hS : Sep w0 w (setT k s :: R)) :
    Calls Try.prog 55 #[.pointer (some ⟨k, 0, none⟩)] w fun e w' => ∃ v', e = .returned v' ∧ Fresh w w' (rowT 0 177 2 v' s.list.length (flat enW s.list)) := by
  have hroom := setT_room hS 0 rfl
  obtain ⟨i0, hi0, hz0, hz1, hz2⟩ := info_parts P_infoE8
  have hni : (s.list.length : Int) ≤ 65536 := by omega
  have HS : Hid (Sep w (w.alloc (.cells #[] 177)) [rowT 0 177 2 (.slice (some ⟨w.heap.size, 0, none⟩) 0 0) 0 (flat enW (s.list.take 0))]) :=
    (Sep.nil (Fr.refl [] w)).fresh (T := rowT 0 177 2 (.slice (some ⟨w.heap.size, 0, none⟩) 0 0) 0 []) (w' := w.alloc (.cells #[] 177)) ⟨(Fr.refl [] w).alloc _, [w.heap.size], ⟨rfl, World.ownsRow_made w #[] 0 (Nat.zero_le _) (by unfold maxLen; omega) (by simp)⟩, by simp⟩
  have HW := Lib.hid ((hS.new 177 []).pull 1 rfl); clear hS
  go_enter Try.func55, Try.ntmps55
  go_wp2_with fail
  refine (wall_sep HW.out).mono ?_
  rintro e w1 ⟨vi, rfl, hfr⟩
  rw [ents_flat] at hfr
  have h2 := (HS.out.fresh hfr).pull 1 rfl
  have hargW := argE_row enW_len (h2.row 1 rfl)
  obtain ⟨ia, ic, rfl⟩ := hargW.len
  have HS := Lib.hid (show Sep w w1 [rowT 0 177 2 (.slice (some ⟨w.heap.size, 0, none⟩) 0 0) 0 (flat enW (s.list.take 0)), rowT 0 136 2 (.slice ia s.list.length ic) s.list.length (flat enW s.list)] from h2)
  clear hargW h2 hfr HW
  have hlen : s.list.length ≤ 65536 := by omega
  clear hroom
  go_wp2_with fail
  go_loopg [3, 10] s.list.length (fun g vo vi wr => ∃ j, g + j = s.list.length ∧ vi = .int .i64 (j : Int) ∧ Sep w wr [rowT 0 177 2 vo j (flat enW (s.list.take j)), rowT 0 136 2 (.slice ia s.list.length ic) s.list.length (flat enW s.list)])
  case atStart => exact ⟨0, by omega, rfl, HS.out⟩
  case round =>
    clear HS
    obtain ⟨j, hgj, rfl, hS⟩ := hrel
    obtain ⟨oa, oc, rfl⟩ := hS.form 0 rfl
    by_cases hj : j < s.list.length
    · have hji : (j : Int) < (s.list.length : Int) := by omega
      obtain ⟨x, rfl, hx, c0, c1⟩ := (argE_row enW_len (hS.row 1 rfl)).at hj
      have htk : flat enW (s.list.take (j + 1)) = flat enW (s.list.take j) ++ enW s.list[j] := by
        rw [List.take_succ_eq_append_getElem hj, flat_app, flat_one]
      have HT := Lib.hid htk
      clear htk
      generalize s.list[j] = cc at *
      obtain ⟨z1, z2⟩ := cc
      have d0 := c0 _ rfl
      have d1 := c1 0 _ rfl
      have hS := (hS.new 136 [.int .i64 z1, .int .u64 z2]).new 177 [.int .i64 z1, .int .u64 z2]
      simp only [World.size_alloc] at hS
      have HS := Lib.hid hS
      clear c0 c1 hS
      have hjm : j ≤ 65536 := by omega
      go_wp2_with (at_builtin; go_must (refine wpList_push_blk _ rfl _ _ 93 rfl 0 177 i0 _ 2 16 Try.underlying93 hi0 hz0 hz1 hz2 rfl (by decide) (.slice oa j oc) j (flat enW (s.list.take j)) rfl (HS.out.row 2 rfl) (enW (z1, z2)) _ _ rfl (HS.out.blk 0 rfl) rfl (by simp [enW, Value.oneCell']) (by unfold maxLen; omega) (by omega) (Nat.zero_le _) ?_))
      intro g2 c2' w12 hown hg2 hgg hc1 hc2'
      have h3 := (HS.out.grown 2 rfl hown hg2 (fun q e => by
        rcases hgg with h1 | h1
        · exact .inl (h1.trans e)
        · right; simp only [Value.ownBlock, Option.some.injEq] at e; rw [← e, h1]; simp)).tail.tail
      rw [← HT.out] at h3
      have HS3 := Lib.hid (show Sep w w12 [rowT 0 177 2 (.slice (some ⟨g2, 0, none⟩) (j + 1) c2') (j + 1) (flat enW (s.list.take (j + 1))), rowT 0 136 2 (.slice (some x) s.list.length ic) s.list.length (flat enW s.list)] from h3)
      clear h3 hown hg2 hgg HS HT
      go_wp2_with fail
      go_roundg (s.list.length - (j + 1))
      case measure => omega
      case rel => exact ⟨j + 1, by omega, by go_num, HS3.out⟩
    · obtain rfl : j = s.list.length := by omega
      go_wp2_with fail
      go_ret
      rw [List.take_of_length_le (Nat.le_refl _)] at hS
      exact ⟨_, rfl, (hS.sub [0] rfl (by decide)).toFresh⟩
end Go.Proofs.Ytccioehckfdjdaa
