/- The walks of package view: Held, End, begin, lives, touch, loaded, Tell, Cell, Word, Live, New. -/
import Derived.Test.YtccioehckfdjdaaVplain
import Derived.Test.YtccioehckfdjdaaEq
set_option linter.unusedSimpArgs false
set_option linter.unusedVariables false
namespace Go.Tum
end Go.Tum
namespace Go.Proofs.Ytccioehckfdjdaa
open Go.RowKit Go.Tum Go.Tum.Y Go.Tum.Vw
theorem held_any (w : World) (b : Nat) (cs : List Value) (hsz : cs.length = 24) (who seq : Int) (v : V) (hB : Blk w b 152 (vwL cs who seq v)) :
    Calls Try.prog 23 #[.pointer (some ⟨b, 0, none⟩)] w fun e w' => e = .returned (.int .i64 v.held) ∧ Fr [] w w' := by
  have k25 := (hB.cell 25).trans (vwL_at hsz who seq v).2.1
  have k26 := (hB.cell 26).trans (vwL_at hsz who seq v).2.2.1
  have k27 := (hB.cell 27).trans (vwL_at hsz who seq v).2.2.2.1
  have k28 := (hB.cell 28).trans (vwL_at hsz who seq v).2.2.2.2.1
  have k29 := (hB.cell 29).trans (vwL_at hsz who seq v).2.2.2.2.2.1
  have k30 := (hB.cell 30).trans (vwL_at hsz who seq v).2.2.2.2.2.2.1
  have k31 := (hB.cell 31).trans (vwL_at hsz who seq v).2.2.2.2.2.2.2
  have f26 := hB.froz 26
  have f27 := hB.froz 27
  have f28 := hB.froz 28
  have f29 := hB.froz 29
  have f30 := hB.froz 30
  have f31 := hB.froz 31
  have kl := hB.lt
  try dsimp only at k26 k27 k28 k29 k30 k31
  clear hB
  go_enter Try.func23, Try.ntmps23
  go_wp2
  go_ret
  exact ⟨rfl, Fr.refl _ _⟩
theorem vend_any (w : World) (b : Nat) (cs : List Value) (hsz : cs.length = 24) (who seq : Int) (v : V) (hB : Blk w b 152 (vwL cs who seq v)) :
    Calls Try.prog 21 #[.pointer (some ⟨b, 0, none⟩)] w fun e w' => e = .returned (.tuple #[.int .u64 v.val, .int .i64 v.s]) ∧ Fr [] w w' := by
  have k25 := (hB.cell 25).trans (vwL_at hsz who seq v).2.1
  have k26 := (hB.cell 26).trans (vwL_at hsz who seq v).2.2.1
  have k27 := (hB.cell 27).trans (vwL_at hsz who seq v).2.2.2.1
  have k28 := (hB.cell 28).trans (vwL_at hsz who seq v).2.2.2.2.1
  have k29 := (hB.cell 29).trans (vwL_at hsz who seq v).2.2.2.2.2.1
  have k30 := (hB.cell 30).trans (vwL_at hsz who seq v).2.2.2.2.2.2.1
  have k31 := (hB.cell 31).trans (vwL_at hsz who seq v).2.2.2.2.2.2.2
  have f26 := hB.froz 26
  have f27 := hB.froz 27
  have f28 := hB.froz 28
  have f29 := hB.froz 29
  have f30 := hB.froz 30
  have f31 := hB.froz 31
  have kl := hB.lt
  try dsimp only at k26 k27 k28 k29 k30 k31
  clear hB
  generalize v.val = x1 at *
  generalize v.s = x2 at *
  go_enter Try.func21, Try.ntmps21
  go_wp2
  refine wp_region_fr [(1, [0, 1, 2, 3, 4, 5, 6, 7, 8, 9])] [] (by kernel_rfl) (by kernel_rfl) ?_
  simp only [theOps, nthOp, List.map_cons, List.map_nil, Array.getD_eq_getD_getElem?, List.getElem?_toArray, List.getElem?_cons_succ, List.getElem?_cons_zero, Option.getD_some]
  repeat ((first | refine wpSegs_soft ?_ | refine wpSegs_pure ?_ | refine wpSegs_here ?_); (repeat (first | go_big_quiet_step (fail) | quiet_step (fail))); refine wpQuiet_nil ?_)
  refine wpSegs_done ?_
  go_wp2_with fail
  exact bodyPost_ret (v := .tuple #[.int .u64 x1, .int .i64 x2]) (by simp [results, Try.results21, go_sem]) rfl ⟨rfl, (Fr.refl [] _).drew⟩
theorem begin_any {w0 w : World} {R : List Thing} (b : Nat) (cs : List Value) (hsz : cs.length = 24) (who seq : Int) (v : V) (ok : Bool) (hS : Sep w0 w (blkT b 152 (vwL cs who seq v) :: R)) :
    Calls Try.prog 134 #[.pointer (some ⟨b, 0, none⟩), .bool ok] w fun e w' => e = .returned (.bool (bgn ok v).2) ∧ Sep w0 w' (blkT b 152 (vwL cs who seq (bgn ok v).1) :: R) := by
  have k25 := ((hS.blk 0 rfl).cell 25).trans (vwL_at hsz who seq v).2.1
  have k26 := ((hS.blk 0 rfl).cell 26).trans (vwL_at hsz who seq v).2.2.1
  have k27 := ((hS.blk 0 rfl).cell 27).trans (vwL_at hsz who seq v).2.2.2.1
  have k28 := ((hS.blk 0 rfl).cell 28).trans (vwL_at hsz who seq v).2.2.2.2.1
  have k29 := ((hS.blk 0 rfl).cell 29).trans (vwL_at hsz who seq v).2.2.2.2.2.1
  have k30 := ((hS.blk 0 rfl).cell 30).trans (vwL_at hsz who seq v).2.2.2.2.2.2.1
  have k31 := ((hS.blk 0 rfl).cell 31).trans (vwL_at hsz who seq v).2.2.2.2.2.2.2
  have f26 := (hS.blk 0 rfl).froz 26
  have f27 := (hS.blk 0 rfl).froz 27
  have f28 := (hS.blk 0 rfl).froz 28
  have f29 := (hS.blk 0 rfl).froz 29
  have f30 := (hS.blk 0 rfl).froz 30
  have f31 := (hS.blk 0 rfl).froz 31
  have kl := (hS.blk 0 rfl).lt
  try dsimp only at k26 k27 k28 k29 k30 k31
  unfold bgn
  have hS1 := ((hS.set 0 rfl 30 (.int .u64 0)).set 0 rfl 27 (.int .i64 0)).set 0 rfl 31 (.int .i64 3)
  have hS2 := hS1.set 0 rfl 31 (.int .i64 0)
  simp only [List.set_cons_zero, vwL_val hsz, vwL_step hsz, vwL_s hsz] at hS1 hS2
  have HS := Lib.hid hS; have HS1 := Lib.hid hS1; have HS2 := Lib.hid hS2
  clear hS hS1 hS2
  by_cases h2 : v.s = 2
  · rw [if_pos h2]
    rw [h2] at k31
    clear h2
    go_enter Try.func134, Try.ntmps134
    go_wp2_with fail
    go_ret
    exact ⟨rfl, HS.out⟩
  · rw [if_neg h2]
    have h3 : (v.s == 2) = false := by simpa using h2
    clear h2
    generalize v.s = q at k31 h3
    cases ok
    · go_enter Try.func134, Try.ntmps134
      go_wp2_with fail
      go_ret
      exact ⟨rfl, HS1.out⟩
    · go_enter Try.func134, Try.ntmps134
      go_wp2_with fail
      go_ret
      exact ⟨rfl, HS2.out⟩
theorem lives_any {w0 w : World} {R : List Thing} (b : Nat) (cs : List Value) (hsz : cs.length = 24) (who seq : Int) (v : V) (hS : Sep w0 w (blkT b 152 (vwL cs who seq v) :: R)) :
    Calls Try.prog 137 #[.pointer (some ⟨b, 0, none⟩)] w fun e w' => e = .returned (.tuple #[]) ∧ Sep w0 w' (blkT b 152 (vwL cs who seq (lives v)) :: R) := by
  have k25 := ((hS.blk 0 rfl).cell 25).trans (vwL_at hsz who seq v).2.1
  have k26 := ((hS.blk 0 rfl).cell 26).trans (vwL_at hsz who seq v).2.2.1
  have k27 := ((hS.blk 0 rfl).cell 27).trans (vwL_at hsz who seq v).2.2.2.1
  have k28 := ((hS.blk 0 rfl).cell 28).trans (vwL_at hsz who seq v).2.2.2.2.1
  have k29 := ((hS.blk 0 rfl).cell 29).trans (vwL_at hsz who seq v).2.2.2.2.2.1
  have k30 := ((hS.blk 0 rfl).cell 30).trans (vwL_at hsz who seq v).2.2.2.2.2.2.1
  have k31 := ((hS.blk 0 rfl).cell 31).trans (vwL_at hsz who seq v).2.2.2.2.2.2.2
  have f26 := (hS.blk 0 rfl).froz 26
  have f27 := (hS.blk 0 rfl).froz 27
  have f28 := (hS.blk 0 rfl).froz 28
  have f29 := (hS.blk 0 rfl).froz 29
  have f30 := (hS.blk 0 rfl).froz 30
  have f31 := (hS.blk 0 rfl).froz 31
  have kl := (hS.blk 0 rfl).lt
  try dsimp only at k26 k27 k28 k29 k30 k31
  unfold lives
  have hS1 := ((hS.set 0 rfl 26 (.int .i64 v.block)).set 0 rfl 27 (.int .i64 3))
  have hS2 := (hS1.set 0 rfl 27 (.int .i64 0)).set 0 rfl 31 (.int .i64 1)
  simp only [List.set_cons_zero, vwL_held hsz, vwL_step hsz, vwL_s hsz] at hS1 hS2
  have HS1 := Lib.hid hS1; have HS2 := Lib.hid hS2
  clear hS hS1 hS2
  by_cases h2 : v.at_ = -1
  · rw [if_pos h2]
    rw [h2] at k29
    clear h2
    go_enter Try.func137, Try.ntmps137
    go_wp2_with fail
    go_end0
    exact ⟨rfl, HS2.out⟩
  · rw [if_neg h2]
    have h3 : (v.at_ == -1) = false := by simpa using h2
    clear h2
    go_enter Try.func137, Try.ntmps137
    go_wp2_with fail
    go_end0
    exact ⟨rfl, HS1.out⟩
theorem touch_any {w0 w : World} {R : List Thing} (b : Nat) (cs : List Value) (hsz : cs.length = 24) (who seq : Int) (v : V) (block a : Int) (hS : Sep w0 w (blkT b 152 (vwL cs who seq v) :: R)) :
    Calls Try.prog 135 #[.pointer (some ⟨b, 0, none⟩), .int .i64 block, .int .i64 a] w fun e w' => e = .returned (.tuple #[]) ∧ Sep w0 w' (blkT b 152 (vwL cs who seq (touch block a v)) :: R) := by
  have k25 := ((hS.blk 0 rfl).cell 25).trans (vwL_at hsz who seq v).2.1
  have k26 := ((hS.blk 0 rfl).cell 26).trans (vwL_at hsz who seq v).2.2.1
  have k27 := ((hS.blk 0 rfl).cell 27).trans (vwL_at hsz who seq v).2.2.2.1
  have k28 := ((hS.blk 0 rfl).cell 28).trans (vwL_at hsz who seq v).2.2.2.2.1
  have k29 := ((hS.blk 0 rfl).cell 29).trans (vwL_at hsz who seq v).2.2.2.2.2.1
  have k30 := ((hS.blk 0 rfl).cell 30).trans (vwL_at hsz who seq v).2.2.2.2.2.2.1
  have k31 := ((hS.blk 0 rfl).cell 31).trans (vwL_at hsz who seq v).2.2.2.2.2.2.2
  have f26 := (hS.blk 0 rfl).froz 26
  have f27 := (hS.blk 0 rfl).froz 27
  have f28 := (hS.blk 0 rfl).froz 28
  have f29 := (hS.blk 0 rfl).froz 29
  have f30 := (hS.blk 0 rfl).froz 30
  have f31 := (hS.blk 0 rfl).froz 31
  have kl := (hS.blk 0 rfl).lt
  try dsimp only at k26 k27 k28 k29 k30 k31
  unfold touch
  have hS1 := ((hS.set 0 rfl 28 (.int .i64 block)).set 0 rfl 29 (.int .i64 a)).set 0 rfl 27 (.int .i64 1)
  simp only [List.set_cons_zero, vwL_block hsz, vwL_ats hsz, vwL_step hsz] at hS1
  have HS1 := Lib.hid hS1
  clear hS hS1
  by_cases h2 : v.held = block
  · rw [if_pos h2]
    rw [h2] at k26
    have h3 : (block == block) = true := by simp
    clear h2
    go_enter Try.func135, Try.ntmps135
    go_wp2_with fail
    refine (lives_any b cs hsz who seq _ HS1.out).mono ?_
    rintro e w1 ⟨rfl, hS⟩
    go_wp2_with fail
    go_end0
    exact ⟨rfl, hS⟩
  · rw [if_neg h2]
    have h3 : (v.held == block) = false := by simpa using h2
    clear h2
    go_enter Try.func135, Try.ntmps135
    go_wp2_with fail
    go_end0
    exact ⟨rfl, HS1.out⟩
end Go.Proofs.Ytccioehckfdjdaa
