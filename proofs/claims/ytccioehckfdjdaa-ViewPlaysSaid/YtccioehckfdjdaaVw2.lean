/- The walks of package view: loaded, Tell, Cell, Word, Live, New. -/
import Derived.Test.YtccioehckfdjdaaVw
set_option linter.unusedSimpArgs false
set_option linter.unusedVariables false
namespace Go.Tum
theorem Sep.snd1 {w0 w : World} {T U : Thing} (h : Sep w0 w [T, U]) : Sep w0 w [T] := (h.pull 1 rfl).tail
end Go.Tum
namespace Go.Proofs.Ytccioehckfdjdaa
open Go.RowKit Go.Tum Go.Tum.Y Go.Tum.Vw
theorem zero_cell : ∀ x ∈ [Value.int .u64 0, .int .u64 0], x.oneCell' = true := by simp [Value.oneCell']
set_option maxHeartbeats 2000000 in
theorem loaded_any {w0 w : World} {R : List Thing} (b : Nat) (cs : List Value) (hsz : cs.length = 24) (who seq : Int) (v : V) (x n : Int) (hS : Sep w0 w (blkT b 152 (vwL cs who seq v) :: R)) :
    Calls Try.prog 98 #[.pointer (some ⟨b, 0, none⟩), .agg #[.int .u64 x, .int .u64 n]] w fun e w' => e = .returned (.tuple #[]) ∧ Sep w0 w' (blkT b 152 (vwL cs who seq (loaded seq x n v)) :: R) := by
  unfold loaded
  by_cases h1 : seq < n
  · rw [if_pos h1]
    have h2 : decide (n > seq) = true := by simpa using h1
    clear h1
    have hS0 := (hS.new 41 [.int .u64 x, .int .u64 n])
    have HS0 := Lib.hid hS0
    have k25 := ((hS0.blk 1 rfl).cell 25).trans (vwL_at hsz who seq v).2.1
    have k26 := ((hS0.blk 1 rfl).cell 26).trans (vwL_at hsz who seq v).2.2.1
    have k27 := ((hS0.blk 1 rfl).cell 27).trans (vwL_at hsz who seq v).2.2.2.1
    have k28 := ((hS0.blk 1 rfl).cell 28).trans (vwL_at hsz who seq v).2.2.2.2.1
    have k29 := ((hS0.blk 1 rfl).cell 29).trans (vwL_at hsz who seq v).2.2.2.2.2.1
    have k30 := ((hS0.blk 1 rfl).cell 30).trans (vwL_at hsz who seq v).2.2.2.2.2.2.1
    have k31 := ((hS0.blk 1 rfl).cell 31).trans (vwL_at hsz who seq v).2.2.2.2.2.2.2
    have f26 := (hS0.blk 1 rfl).froz 26
    have f27 := (hS0.blk 1 rfl).froz 27
    have f28 := (hS0.blk 1 rfl).froz 28
    have f29 := (hS0.blk 1 rfl).froz 29
    have f30 := (hS0.blk 1 rfl).froz 30
    have f31 := (hS0.blk 1 rfl).froz 31
    have kl := (hS0.blk 1 rfl).lt
    try dsimp only at k26 k27 k28 k29 k30 k31
    have hS1 := hS0.set 1 rfl 27 (.int .i64 0)
    simp only [List.set_cons_zero, List.set_cons_succ, vwL_step hsz] at hS1
    have HS1 := Lib.hid hS1
    have z0 := (hS0.blk 0 rfl).cell 0
    have z1 := (hS0.blk 0 rfl).cell 1
    simp only [List.getElem?_cons_zero, List.getElem?_cons_succ] at z0 z1
    have zl := (hS0.blk 0 rfl).lt
    have zn := hS0.ne 0 1 rfl rfl (by decide)
    clear hS hS0 hS1
    go_enter Try.func98, Try.ntmps98
    go_wp2_with fail
    generalize World.setCell _ _ _ = w1 at HS1 ⊢
    clear k25 k26 k27 k28 k29 k30 k31 f26 f27 f28 f29 f30 f31 kl z0 z1 zl
    have hS1 := HS1.out
    have k25 := ((hS1.blk 1 rfl).cell 25).trans (vwL_at hsz who seq { v with step := 0 }).2.1
    have k26 := ((hS1.blk 1 rfl).cell 26).trans (vwL_at hsz who seq { v with step := 0 }).2.2.1
    have k27 := ((hS1.blk 1 rfl).cell 27).trans (vwL_at hsz who seq { v with step := 0 }).2.2.2.1
    have k28 := ((hS1.blk 1 rfl).cell 28).trans (vwL_at hsz who seq { v with step := 0 }).2.2.2.2.1
    have k29 := ((hS1.blk 1 rfl).cell 29).trans (vwL_at hsz who seq { v with step := 0 }).2.2.2.2.2.1
    have k30 := ((hS1.blk 1 rfl).cell 30).trans (vwL_at hsz who seq { v with step := 0 }).2.2.2.2.2.2.1
    have k31 := ((hS1.blk 1 rfl).cell 31).trans (vwL_at hsz who seq { v with step := 0 }).2.2.2.2.2.2.2
    have f26 := (hS1.blk 1 rfl).froz 26
    have f27 := (hS1.blk 1 rfl).froz 27
    have f28 := (hS1.blk 1 rfl).froz 28
    have f29 := (hS1.blk 1 rfl).froz 29
    have f30 := (hS1.blk 1 rfl).froz 30
    have f31 := (hS1.blk 1 rfl).froz 31
    have kl := (hS1.blk 1 rfl).lt
    try dsimp only at k26 k27 k28 k29 k30 k31
    have z0 := (hS1.blk 0 rfl).cell 0
    have z1 := (hS1.blk 0 rfl).cell 1
    have zl := (hS1.blk 0 rfl).lt
    simp only [List.getElem?_cons_zero, List.getElem?_cons_succ] at z0 z1
    have hS2 := hS1.drew.set 1 rfl 31 (.int .i64 2)
    simp only [List.set_cons_zero, List.set_cons_succ, vwL_s hsz] at hS2
    have HS2 := Lib.hid hS2.tail; clear hS1 hS2
    refine wp_region_fr [(1, [0, 1, 2, 3, 4, 5, 6, 7])] [] (by kernel_rfl) (by kernel_rfl) ?_
    simp only [theOps, nthOp, List.map_cons, List.map_nil, Array.getD_eq_getD_getElem?, List.getElem?_toArray, List.getElem?_cons_succ, List.getElem?_cons_zero, Option.getD_some]
    repeat ((first | refine wpSegs_soft ?_ | refine wpSegs_pure ?_ | refine wpSegs_here ?_); (repeat (first | go_big_quiet_step (fail) | quiet_step (fail))); refine wpQuiet_nil ?_)
    refine wpSegs_done ?_
    go_wp2_with fail
    go_end0
    exact ⟨rfl, HS2.out⟩
  · rw [if_neg h1]
    have h2 : decide (n > seq) = false := by simpa using h1
    clear h1
    by_cases h3 : v.step = 3
    · rw [if_pos h3]
      have hS0 := (hS.new 41 [.int .u64 x, .int .u64 n])
      have HS0 := Lib.hid hS0
      have k25 := ((hS0.blk 1 rfl).cell 25).trans (vwL_at hsz who seq v).2.1
      have k26 := ((hS0.blk 1 rfl).cell 26).trans (vwL_at hsz who seq v).2.2.1
      have k27 := ((hS0.blk 1 rfl).cell 27).trans (vwL_at hsz who seq v).2.2.2.1
      have k28 := ((hS0.blk 1 rfl).cell 28).trans (vwL_at hsz who seq v).2.2.2.2.1
      have k29 := ((hS0.blk 1 rfl).cell 29).trans (vwL_at hsz who seq v).2.2.2.2.2.1
      have k30 := ((hS0.blk 1 rfl).cell 30).trans (vwL_at hsz who seq v).2.2.2.2.2.2.1
      have k31 := ((hS0.blk 1 rfl).cell 31).trans (vwL_at hsz who seq v).2.2.2.2.2.2.2
      have f26 := (hS0.blk 1 rfl).froz 26
      have f27 := (hS0.blk 1 rfl).froz 27
      have f28 := (hS0.blk 1 rfl).froz 28
      have f29 := (hS0.blk 1 rfl).froz 29
      have f30 := (hS0.blk 1 rfl).froz 30
      have f31 := (hS0.blk 1 rfl).froz 31
      have kl := (hS0.blk 1 rfl).lt
      try dsimp only at k26 k27 k28 k29 k30 k31
      have hS1 := hS0.set 1 rfl 27 (.int .i64 0)
      simp only [List.set_cons_zero, List.set_cons_succ, vwL_step hsz] at hS1
      have HS1 := Lib.hid hS1
      have z0 := (hS0.blk 0 rfl).cell 0
      have z1 := (hS0.blk 0 rfl).cell 1
      simp only [List.getElem?_cons_zero, List.getElem?_cons_succ] at z0 z1
      have zl := (hS0.blk 0 rfl).lt
      have zn := hS0.ne 0 1 rfl rfl (by decide)
      clear hS hS0 hS1
      go_enter Try.func98, Try.ntmps98
      go_wp2_with fail
      generalize World.setCell _ _ _ = w1 at HS1 ⊢
      clear k25 k26 k27 k28 k29 k30 k31 f26 f27 f28 f29 f30 f31 kl z0 z1 zl
      have hS1 := HS1.out
      have k25 := ((hS1.blk 1 rfl).cell 25).trans (vwL_at hsz who seq { v with step := 0 }).2.1
      have k26 := ((hS1.blk 1 rfl).cell 26).trans (vwL_at hsz who seq { v with step := 0 }).2.2.1
      have k27 := ((hS1.blk 1 rfl).cell 27).trans (vwL_at hsz who seq { v with step := 0 }).2.2.2.1
      have k28 := ((hS1.blk 1 rfl).cell 28).trans (vwL_at hsz who seq { v with step := 0 }).2.2.2.2.1
      have k29 := ((hS1.blk 1 rfl).cell 29).trans (vwL_at hsz who seq { v with step := 0 }).2.2.2.2.2.1
      have k30 := ((hS1.blk 1 rfl).cell 30).trans (vwL_at hsz who seq { v with step := 0 }).2.2.2.2.2.2.1
      have k31 := ((hS1.blk 1 rfl).cell 31).trans (vwL_at hsz who seq { v with step := 0 }).2.2.2.2.2.2.2
      have f26 := (hS1.blk 1 rfl).froz 26
      have f27 := (hS1.blk 1 rfl).froz 27
      have f28 := (hS1.blk 1 rfl).froz 28
      have f29 := (hS1.blk 1 rfl).froz 29
      have f30 := (hS1.blk 1 rfl).froz 30
      have f31 := (hS1.blk 1 rfl).froz 31
      have kl := (hS1.blk 1 rfl).lt
      try dsimp only at k26 k27 k28 k29 k30 k31
      have z0 := (hS1.blk 0 rfl).cell 0
      have z1 := (hS1.blk 0 rfl).cell 1
      have zl := (hS1.blk 0 rfl).lt
      simp only [List.getElem?_cons_zero, List.getElem?_cons_succ] at z0 z1
      have h4 : (v.step == 3) = true := by simpa using h3
      clear h3
      have hS2 := (hS1.drew.set 1 rfl 30 (.int .u64 x)).set 1 rfl 31 (.int .i64 1)
      simp only [List.set_cons_zero, List.set_cons_succ, vwL_val hsz, vwL_s hsz] at hS2
      have HS2 := Lib.hid hS2.tail; clear hS1 hS2
      refine wp_region_fr [(1, [0, 1, 2, 3, 4, 5, 6, 7])] [] (by kernel_rfl) (by kernel_rfl) ?_
      simp only [theOps, nthOp, List.map_cons, List.map_nil, Array.getD_eq_getD_getElem?, List.getElem?_toArray, List.getElem?_cons_succ, List.getElem?_cons_zero, Option.getD_some]
      repeat ((first | refine wpSegs_soft ?_ | refine wpSegs_pure ?_ | refine wpSegs_here ?_); (repeat (first | go_big_quiet_step (fail) | quiet_step (fail))); refine wpQuiet_nil ?_)
      refine wpSegs_done ?_
      go_wp2_with fail
      go_end0
      exact ⟨rfl, HS2.out⟩
    · rw [if_neg h3]
      by_cases h5 : x = 1
      · rw [if_pos h5]
        have h4 : (v.step == 3) = false := by simpa using h3
        have h6 : (x == 1) = true := by simpa using h5
        clear h5 h3
        have hS0 := (hS.new 41 [.int .u64 x, .int .u64 n])
        have HS0 := Lib.hid hS0
        have k25 := ((hS0.blk 1 rfl).cell 25).trans (vwL_at hsz who seq v).2.1
        have k26 := ((hS0.blk 1 rfl).cell 26).trans (vwL_at hsz who seq v).2.2.1
        have k27 := ((hS0.blk 1 rfl).cell 27).trans (vwL_at hsz who seq v).2.2.2.1
        have k28 := ((hS0.blk 1 rfl).cell 28).trans (vwL_at hsz who seq v).2.2.2.2.1
        have k29 := ((hS0.blk 1 rfl).cell 29).trans (vwL_at hsz who seq v).2.2.2.2.2.1
        have k30 := ((hS0.blk 1 rfl).cell 30).trans (vwL_at hsz who seq v).2.2.2.2.2.2.1
        have k31 := ((hS0.blk 1 rfl).cell 31).trans (vwL_at hsz who seq v).2.2.2.2.2.2.2
        have f26 := (hS0.blk 1 rfl).froz 26
        have f27 := (hS0.blk 1 rfl).froz 27
        have f28 := (hS0.blk 1 rfl).froz 28
        have f29 := (hS0.blk 1 rfl).froz 29
        have f30 := (hS0.blk 1 rfl).froz 30
        have f31 := (hS0.blk 1 rfl).froz 31
        have kl := (hS0.blk 1 rfl).lt
        try dsimp only at k26 k27 k28 k29 k30 k31
        have hS1 := hS0.set 1 rfl 27 (.int .i64 0)
        simp only [List.set_cons_zero, List.set_cons_succ, vwL_step hsz] at hS1
        have HS1 := Lib.hid hS1
        have z0 := (hS0.blk 0 rfl).cell 0
        have z1 := (hS0.blk 0 rfl).cell 1
        simp only [List.getElem?_cons_zero, List.getElem?_cons_succ] at z0 z1
        have zl := (hS0.blk 0 rfl).lt
        have zn := hS0.ne 0 1 rfl rfl (by decide)
        clear hS hS0 hS1
        go_enter Try.func98, Try.ntmps98
        go_wp2_with fail
        generalize World.setCell _ _ _ = w1 at HS1 ⊢
        clear k25 k26 k27 k28 k29 k30 k31 f26 f27 f28 f29 f30 f31 kl z0 z1 zl
        have hS1 := HS1.out
        have k25 := ((hS1.blk 1 rfl).cell 25).trans (vwL_at hsz who seq { v with step := 0 }).2.1
        have k26 := ((hS1.blk 1 rfl).cell 26).trans (vwL_at hsz who seq { v with step := 0 }).2.2.1
        have k27 := ((hS1.blk 1 rfl).cell 27).trans (vwL_at hsz who seq { v with step := 0 }).2.2.2.1
        have k28 := ((hS1.blk 1 rfl).cell 28).trans (vwL_at hsz who seq { v with step := 0 }).2.2.2.2.1
        have k29 := ((hS1.blk 1 rfl).cell 29).trans (vwL_at hsz who seq { v with step := 0 }).2.2.2.2.2.1
        have k30 := ((hS1.blk 1 rfl).cell 30).trans (vwL_at hsz who seq { v with step := 0 }).2.2.2.2.2.2.1
        have k31 := ((hS1.blk 1 rfl).cell 31).trans (vwL_at hsz who seq { v with step := 0 }).2.2.2.2.2.2.2
        have f26 := (hS1.blk 1 rfl).froz 26
        have f27 := (hS1.blk 1 rfl).froz 27
        have f28 := (hS1.blk 1 rfl).froz 28
        have f29 := (hS1.blk 1 rfl).froz 29
        have f30 := (hS1.blk 1 rfl).froz 30
        have f31 := (hS1.blk 1 rfl).froz 31
        have kl := (hS1.blk 1 rfl).lt
        try dsimp only at k26 k27 k28 k29 k30 k31
        have z0 := (hS1.blk 0 rfl).cell 0
        have z1 := (hS1.blk 0 rfl).cell 1
        have zl := (hS1.blk 0 rfl).lt
        simp only [List.getElem?_cons_zero, List.getElem?_cons_succ] at z0 z1
        clear hS1
        refine wp_region_fr [(1, [0, 1, 2, 3, 4, 5, 6, 7])] [] (by kernel_rfl) (by kernel_rfl) ?_
        simp only [theOps, nthOp, List.map_cons, List.map_nil, Array.getD_eq_getD_getElem?, List.getElem?_toArray, List.getElem?_cons_succ, List.getElem?_cons_zero, Option.getD_some]
        repeat ((first | refine wpSegs_soft ?_ | refine wpSegs_pure ?_ | refine wpSegs_here ?_); (repeat (first | go_big_quiet_step (fail) | quiet_step (fail))); refine wpQuiet_nil ?_)
        refine wpSegs_done ?_
        go_wp2_with fail
        refine (lives_any b cs hsz who seq _ HS1.out.drew.tail).mono ?_
        rintro e w2 ⟨rfl, hS⟩
        go_wp2_with fail
        go_end0
        exact ⟨rfl, hS⟩
      · rw [if_neg h5]
        have h4 : (v.step == 3) = false := by simpa using h3
        have h6 : (x == 1) = false := by simpa using h5
        have hS0 := (hS.new 41 [.int .u64 x, .int .u64 n])
        have HS0 := Lib.hid hS0
        have k25 := ((hS0.blk 1 rfl).cell 25).trans (vwL_at hsz who seq v).2.1
        have k26 := ((hS0.blk 1 rfl).cell 26).trans (vwL_at hsz who seq v).2.2.1
        have k27 := ((hS0.blk 1 rfl).cell 27).trans (vwL_at hsz who seq v).2.2.2.1
        have k28 := ((hS0.blk 1 rfl).cell 28).trans (vwL_at hsz who seq v).2.2.2.2.1
        have k29 := ((hS0.blk 1 rfl).cell 29).trans (vwL_at hsz who seq v).2.2.2.2.2.1
        have k30 := ((hS0.blk 1 rfl).cell 30).trans (vwL_at hsz who seq v).2.2.2.2.2.2.1
        have k31 := ((hS0.blk 1 rfl).cell 31).trans (vwL_at hsz who seq v).2.2.2.2.2.2.2
        have f26 := (hS0.blk 1 rfl).froz 26
        have f27 := (hS0.blk 1 rfl).froz 27
        have f28 := (hS0.blk 1 rfl).froz 28
        have f29 := (hS0.blk 1 rfl).froz 29
        have f30 := (hS0.blk 1 rfl).froz 30
        have f31 := (hS0.blk 1 rfl).froz 31
        have kl := (hS0.blk 1 rfl).lt
        try dsimp only at k26 k27 k28 k29 k30 k31
        have hS1 := hS0.set 1 rfl 27 (.int .i64 0)
        simp only [List.set_cons_zero, List.set_cons_succ, vwL_step hsz] at hS1
        have HS1 := Lib.hid hS1
        have z0 := (hS0.blk 0 rfl).cell 0
        have z1 := (hS0.blk 0 rfl).cell 1
        simp only [List.getElem?_cons_zero, List.getElem?_cons_succ] at z0 z1
        have zl := (hS0.blk 0 rfl).lt
        have zn := hS0.ne 0 1 rfl rfl (by decide)
        clear hS hS0 hS1
        go_enter Try.func98, Try.ntmps98
        go_wp2_with fail
        generalize World.setCell _ _ _ = w1 at HS1 ⊢
        clear k25 k26 k27 k28 k29 k30 k31 f26 f27 f28 f29 f30 f31 kl z0 z1 zl
        have hS1 := HS1.out
        have k25 := ((hS1.blk 1 rfl).cell 25).trans (vwL_at hsz who seq { v with step := 0 }).2.1
        have k26 := ((hS1.blk 1 rfl).cell 26).trans (vwL_at hsz who seq { v with step := 0 }).2.2.1
        have k27 := ((hS1.blk 1 rfl).cell 27).trans (vwL_at hsz who seq { v with step := 0 }).2.2.2.1
        have k28 := ((hS1.blk 1 rfl).cell 28).trans (vwL_at hsz who seq { v with step := 0 }).2.2.2.2.1
        have k29 := ((hS1.blk 1 rfl).cell 29).trans (vwL_at hsz who seq { v with step := 0 }).2.2.2.2.2.1
        have k30 := ((hS1.blk 1 rfl).cell 30).trans (vwL_at hsz who seq { v with step := 0 }).2.2.2.2.2.2.1
        have k31 := ((hS1.blk 1 rfl).cell 31).trans (vwL_at hsz who seq { v with step := 0 }).2.2.2.2.2.2.2
        have f26 := (hS1.blk 1 rfl).froz 26
        have f27 := (hS1.blk 1 rfl).froz 27
        have f28 := (hS1.blk 1 rfl).froz 28
        have f29 := (hS1.blk 1 rfl).froz 29
        have f30 := (hS1.blk 1 rfl).froz 30
        have f31 := (hS1.blk 1 rfl).froz 31
        have kl := (hS1.blk 1 rfl).lt
        try dsimp only at k26 k27 k28 k29 k30 k31
        have z0 := (hS1.blk 0 rfl).cell 0
        have z1 := (hS1.blk 0 rfl).cell 1
        have zl := (hS1.blk 0 rfl).lt
        simp only [List.getElem?_cons_zero, List.getElem?_cons_succ] at z0 z1
        have hS2 := (hS1.drew.set 1 rfl 31 (.int .i64 3))
        simp only [List.set_cons_zero, List.set_cons_succ, vwL_s hsz] at hS2
        have HS2 := Lib.hid hS2.tail; clear hS1 hS2 h3 h5
        refine wp_region_fr [(1, [0, 1, 2, 3, 4, 5, 6, 7])] [] (by kernel_rfl) (by kernel_rfl) ?_
        simp only [theOps, nthOp, List.map_cons, List.map_nil, Array.getD_eq_getD_getElem?, List.getElem?_toArray, List.getElem?_cons_succ, List.getElem?_cons_zero, Option.getD_some]
        repeat ((first | refine wpSegs_soft ?_ | refine wpSegs_pure ?_ | refine wpSegs_here ?_); (repeat (first | go_big_quiet_step (fail) | quiet_step (fail))); refine wpQuiet_nil ?_)
        refine wpSegs_done ?_
        go_wp2_with fail
        go_end0
        exact ⟨rfl, HS2.out⟩
set_option maxHeartbeats 2000000 in
theorem vtell_any {w0 w : World} {R : List Thing} (b : Nat) (cs : List Value) (hsz : cs.length = 24) (who seq : Int) (v : V) (x n : Int) (ok : Bool) (hS : Sep w0 w (blkT b 152 (vwL cs who seq v) :: R)) :
    Calls Try.prog 22 #[.pointer (some ⟨b, 0, none⟩), .agg #[.int .u64 x, .int .u64 n, .bool ok]] w fun e w' => e = .returned (.tuple #[]) ∧ Sep w0 w' (blkT b 152 (vwL cs who seq (tell seq x n v)) :: R) := by
  unfold tell
  by_cases h1 : v.step = 1
  · rw [if_pos h1]
    have h2 : (v.step == 1) = true := by simpa using h1
    clear h1
    have hS0 := (hS.new 55 [.int .u64 x, .int .u64 n, .bool ok])
    have HS0 := Lib.hid hS0
    have k25 := ((hS0.blk 1 rfl).cell 25).trans (vwL_at hsz who seq v).2.1
    have k26 := ((hS0.blk 1 rfl).cell 26).trans (vwL_at hsz who seq v).2.2.1
    have k27 := ((hS0.blk 1 rfl).cell 27).trans (vwL_at hsz who seq v).2.2.2.1
    have k28 := ((hS0.blk 1 rfl).cell 28).trans (vwL_at hsz who seq v).2.2.2.2.1
    have k29 := ((hS0.blk 1 rfl).cell 29).trans (vwL_at hsz who seq v).2.2.2.2.2.1
    have k30 := ((hS0.blk 1 rfl).cell 30).trans (vwL_at hsz who seq v).2.2.2.2.2.2.1
    have k31 := ((hS0.blk 1 rfl).cell 31).trans (vwL_at hsz who seq v).2.2.2.2.2.2.2
    have f26 := (hS0.blk 1 rfl).froz 26
    have f27 := (hS0.blk 1 rfl).froz 27
    have f28 := (hS0.blk 1 rfl).froz 28
    have f29 := (hS0.blk 1 rfl).froz 29
    have f30 := (hS0.blk 1 rfl).froz 30
    have f31 := (hS0.blk 1 rfl).froz 31
    have kl := (hS0.blk 1 rfl).lt
    try dsimp only at k26 k27 k28 k29 k30 k31
    have z0 := (hS0.blk 0 rfl).cell 0
    have z1 := (hS0.blk 0 rfl).cell 1
    simp only [List.getElem?_cons_zero, List.getElem?_cons_succ] at z0 z1
    have zl := (hS0.blk 0 rfl).lt
    have hS1 := (hS0.set 1 rfl 26 (.int .i64 (-1))).set 1 rfl 27 (.int .i64 2)
    simp only [List.set_cons_zero, List.set_cons_succ, vwL_held hsz, vwL_step hsz] at hS1
    have HS1 := Lib.hid hS1.tail
    clear hS hS0 hS1
    go_enter Try.func22, Try.ntmps22
    go_wp2_with fail
    go_end0
    exact ⟨rfl, HS1.out⟩
  · rw [if_neg h1]
    have h2 : (v.step == 1) = false := by simpa using h1
    clear h1
    by_cases h3 : v.step = 2 ∨ v.step = 3
    · rw [if_pos h3]
      by_cases h4 : v.step = 2
      · have h5 : (v.step == 2) = true := by simpa using h4
        clear h3 h4
        have hS0 := (hS.new 55 [.int .u64 x, .int .u64 n, .bool ok])
        have HS0 := Lib.hid hS0
        have k25 := ((hS0.blk 1 rfl).cell 25).trans (vwL_at hsz who seq v).2.1
        have k26 := ((hS0.blk 1 rfl).cell 26).trans (vwL_at hsz who seq v).2.2.1
        have k27 := ((hS0.blk 1 rfl).cell 27).trans (vwL_at hsz who seq v).2.2.2.1
        have k28 := ((hS0.blk 1 rfl).cell 28).trans (vwL_at hsz who seq v).2.2.2.2.1
        have k29 := ((hS0.blk 1 rfl).cell 29).trans (vwL_at hsz who seq v).2.2.2.2.2.1
        have k30 := ((hS0.blk 1 rfl).cell 30).trans (vwL_at hsz who seq v).2.2.2.2.2.2.1
        have k31 := ((hS0.blk 1 rfl).cell 31).trans (vwL_at hsz who seq v).2.2.2.2.2.2.2
        have f26 := (hS0.blk 1 rfl).froz 26
        have f27 := (hS0.blk 1 rfl).froz 27
        have f28 := (hS0.blk 1 rfl).froz 28
        have f29 := (hS0.blk 1 rfl).froz 29
        have f30 := (hS0.blk 1 rfl).froz 30
        have f31 := (hS0.blk 1 rfl).froz 31
        have kl := (hS0.blk 1 rfl).lt
        try dsimp only at k26 k27 k28 k29 k30 k31
        have z0 := (hS0.blk 0 rfl).cell 0
        have z1 := (hS0.blk 0 rfl).cell 1
        simp only [List.getElem?_cons_zero, List.getElem?_cons_succ] at z0 z1
        have zl := (hS0.blk 0 rfl).lt
        have hS1 := (hS0.set 1 rfl 26 (.int .i64 (-1))).set 1 rfl 27 (.int .i64 2)
        simp only [List.set_cons_zero, List.set_cons_succ, vwL_held hsz, vwL_step hsz] at hS1
        have HS1 := Lib.hid hS1.tail
        clear hS hS0 hS1
        go_enter Try.func22, Try.ntmps22
        go_wp2_with fail
        refine (loaded_any b cs hsz who seq v x n HS0.out.tail).mono ?_
        rintro e w2 ⟨rfl, hS⟩
        go_wp2_with fail
        go_end0
        exact ⟨rfl, hS⟩
      · have h5 : (v.step == 2) = false := by simpa using h4
        have h6 : (v.step == 3) = true := by rcases h3 with h | h; exact absurd h h4; simpa using h
        clear h3 h4
        have hS0 := (hS.new 55 [.int .u64 x, .int .u64 n, .bool ok])
        have HS0 := Lib.hid hS0
        have k25 := ((hS0.blk 1 rfl).cell 25).trans (vwL_at hsz who seq v).2.1
        have k26 := ((hS0.blk 1 rfl).cell 26).trans (vwL_at hsz who seq v).2.2.1
        have k27 := ((hS0.blk 1 rfl).cell 27).trans (vwL_at hsz who seq v).2.2.2.1
        have k28 := ((hS0.blk 1 rfl).cell 28).trans (vwL_at hsz who seq v).2.2.2.2.1
        have k29 := ((hS0.blk 1 rfl).cell 29).trans (vwL_at hsz who seq v).2.2.2.2.2.1
        have k30 := ((hS0.blk 1 rfl).cell 30).trans (vwL_at hsz who seq v).2.2.2.2.2.2.1
        have k31 := ((hS0.blk 1 rfl).cell 31).trans (vwL_at hsz who seq v).2.2.2.2.2.2.2
        have f26 := (hS0.blk 1 rfl).froz 26
        have f27 := (hS0.blk 1 rfl).froz 27
        have f28 := (hS0.blk 1 rfl).froz 28
        have f29 := (hS0.blk 1 rfl).froz 29
        have f30 := (hS0.blk 1 rfl).froz 30
        have f31 := (hS0.blk 1 rfl).froz 31
        have kl := (hS0.blk 1 rfl).lt
        try dsimp only at k26 k27 k28 k29 k30 k31
        have z0 := (hS0.blk 0 rfl).cell 0
        have z1 := (hS0.blk 0 rfl).cell 1
        simp only [List.getElem?_cons_zero, List.getElem?_cons_succ] at z0 z1
        have zl := (hS0.blk 0 rfl).lt
        have hS1 := (hS0.set 1 rfl 26 (.int .i64 (-1))).set 1 rfl 27 (.int .i64 2)
        simp only [List.set_cons_zero, List.set_cons_succ, vwL_held hsz, vwL_step hsz] at hS1
        have HS1 := Lib.hid hS1.tail
        clear hS hS0 hS1
        go_enter Try.func22, Try.ntmps22
        go_wp2_with fail
        refine (loaded_any b cs hsz who seq v x n HS0.out.tail).mono ?_
        rintro e w2 ⟨rfl, hS⟩
        go_wp2_with fail
        go_end0
        exact ⟨rfl, hS⟩
    · rw [if_neg h3]
      have h5 : (v.step == 2) = false := by simp; omega
      have h6 : (v.step == 3) = false := by simp; omega
      clear h3
      have hS0 := (hS.new 55 [.int .u64 x, .int .u64 n, .bool ok])
      have HS0 := Lib.hid hS0
      have k25 := ((hS0.blk 1 rfl).cell 25).trans (vwL_at hsz who seq v).2.1
      have k26 := ((hS0.blk 1 rfl).cell 26).trans (vwL_at hsz who seq v).2.2.1
      have k27 := ((hS0.blk 1 rfl).cell 27).trans (vwL_at hsz who seq v).2.2.2.1
      have k28 := ((hS0.blk 1 rfl).cell 28).trans (vwL_at hsz who seq v).2.2.2.2.1
      have k29 := ((hS0.blk 1 rfl).cell 29).trans (vwL_at hsz who seq v).2.2.2.2.2.1
      have k30 := ((hS0.blk 1 rfl).cell 30).trans (vwL_at hsz who seq v).2.2.2.2.2.2.1
      have k31 := ((hS0.blk 1 rfl).cell 31).trans (vwL_at hsz who seq v).2.2.2.2.2.2.2
      have f26 := (hS0.blk 1 rfl).froz 26
      have f27 := (hS0.blk 1 rfl).froz 27
      have f28 := (hS0.blk 1 rfl).froz 28
      have f29 := (hS0.blk 1 rfl).froz 29
      have f30 := (hS0.blk 1 rfl).froz 30
      have f31 := (hS0.blk 1 rfl).froz 31
      have kl := (hS0.blk 1 rfl).lt
      try dsimp only at k26 k27 k28 k29 k30 k31
      have z0 := (hS0.blk 0 rfl).cell 0
      have z1 := (hS0.blk 0 rfl).cell 1
      simp only [List.getElem?_cons_zero, List.getElem?_cons_succ] at z0 z1
      have zl := (hS0.blk 0 rfl).lt
      have hS1 := (hS0.set 1 rfl 26 (.int .i64 (-1))).set 1 rfl 27 (.int .i64 2)
      simp only [List.set_cons_zero, List.set_cons_succ, vwL_held hsz, vwL_step hsz] at hS1
      have HS1 := Lib.hid hS1.tail
      clear hS hS0 hS1
      go_enter Try.func22, Try.ntmps22
      go_wp2_with fail
      go_end0
      exact ⟨rfl, HS0.out.tail⟩
set_option maxHeartbeats 2000000 in
theorem vcell_any {w0 w : World} {R : List Thing} (b : Nat) (c : Cfg) (hok : Ok c) (who seq : Int) (v : V) (p : Int) (hS : Sep w0 w (blkT b 152 (vwL (mapCells c) who seq v) :: R)) :
    Calls Try.prog 91 #[.pointer (some ⟨b, 0, none⟩), .int .i64 p] w fun e w' => e = .returned (.tuple #[]) ∧ Sep w0 w' (blkT b 152 (vwL (mapCells c) who seq (cell c p v)) :: R) := by
  unfold cell
  have hB0 := hS.blk 0 rfl
  have hmd : w.rangeAt b 0 (mapCells c) := hB0.pre
  have hsz : (mapCells c).length = 24 := rfl
  have HS := Lib.hid hS
  clear hS hB0
  have HW := Lib.hid (what_all hok p)
  have hin : inner c p = decide (7 ≤ (whA c p).1 ∧ (whA c p).1 < 16) := rfl
  unfold Tells mapV at HW
  generalize mapCells c = cs at *
  generalize inner c p = ok at *
  generalize whA c p = q at *
  obtain ⟨q1, q2, q3⟩ := q
  dsimp only at hin HW
  by_cases h1 : 7 ≤ q1
  · have g1 : decide (q1 ≥ 7) = true := by simpa using h1
    by_cases h2 : q1 < 16
    · have g2 : decide (q1 < 16) = true := by simpa using h2
      obtain rfl : ok = true := by rw [hin]; simp; omega
      clear hin h1 h2
      have HBG := Lib.hid (fun (w2 : World) (hS : Sep w0 w2 (blkT b 152 (vwL cs who seq v) :: R)) => begin_any b cs hsz who seq v true hS)
      generalize bgn true v = r at HBG ⊢
      obtain ⟨u, g⟩ := r
      dsimp only at HBG ⊢
      go_enter Try.func91, Try.ntmps91
      go_wp2_with
        (refine wpList_load_any 31 _ rfl rfl _ 0 rfl cs _ hmd Try.underlying31 rfl (by rw [hsz]; kernel_rfl) ?_)
      refine (HW.out _).mono ?_
      rintro e w1 ⟨rfl, hf⟩
      have HS := Lib.hid (HS.out.fr0 hf)
      clear hf hmd
      go_wp2_with fail
      refine (HBG.out _ HS.out).mono ?_
      rintro e w2 ⟨rfl, hS⟩
      have hS2 := (hS.set 0 rfl 29 (.int .i64 p)).set 0 rfl 27 (.int .i64 3)
      simp only [List.set_cons_zero, List.set_cons_succ, vwL_ats hsz, vwL_step hsz] at hS2
      have k25 := ((hS.blk 0 rfl).cell 25).trans (vwL_at hsz who seq u).2.1
      have k26 := ((hS.blk 0 rfl).cell 26).trans (vwL_at hsz who seq u).2.2.1
      have k27 := ((hS.blk 0 rfl).cell 27).trans (vwL_at hsz who seq u).2.2.2.1
      have k28 := ((hS.blk 0 rfl).cell 28).trans (vwL_at hsz who seq u).2.2.2.2.1
      have k29 := ((hS.blk 0 rfl).cell 29).trans (vwL_at hsz who seq u).2.2.2.2.2.1
      have k30 := ((hS.blk 0 rfl).cell 30).trans (vwL_at hsz who seq u).2.2.2.2.2.2.1
      have k31 := ((hS.blk 0 rfl).cell 31).trans (vwL_at hsz who seq u).2.2.2.2.2.2.2
      have f26 := (hS.blk 0 rfl).froz 26
      have f27 := (hS.blk 0 rfl).froz 27
      have f28 := (hS.blk 0 rfl).froz 28
      have f29 := (hS.blk 0 rfl).froz 29
      have f30 := (hS.blk 0 rfl).froz 30
      have f31 := (hS.blk 0 rfl).froz 31
      have kl := (hS.blk 0 rfl).lt
      try dsimp only at k26 k27 k28 k29 k30 k31
      have HS := Lib.hid hS; have HS2 := Lib.hid hS2
      clear hS hS2
      cases g
      · go_wp2_with fail
        go_end0
        exact ⟨rfl, HS.out⟩
      · go_wp2_with fail
        go_end0
        exact ⟨rfl, HS2.out⟩
    · have g2 : decide (q1 < 16) = false := by simpa using h2
      obtain rfl : ok = false := by rw [hin]; simp; omega
      clear hin h1 h2
      have HBG := Lib.hid (fun (w2 : World) (hS : Sep w0 w2 (blkT b 152 (vwL cs who seq v) :: R)) => begin_any b cs hsz who seq v false hS)
      generalize bgn false v = r at HBG ⊢
      obtain ⟨u, g⟩ := r
      dsimp only at HBG ⊢
      go_enter Try.func91, Try.ntmps91
      go_wp2_with
        (refine wpList_load_any 31 _ rfl rfl _ 0 rfl cs _ hmd Try.underlying31 rfl (by rw [hsz]; kernel_rfl) ?_)
      refine (HW.out _).mono ?_
      rintro e w1 ⟨rfl, hf⟩
      have HS := Lib.hid (HS.out.fr0 hf)
      clear hf hmd
      go_wp2_with fail
      refine (HBG.out _ HS.out).mono ?_
      rintro e w2 ⟨rfl, hS⟩
      have hS2 := (hS.set 0 rfl 29 (.int .i64 p)).set 0 rfl 27 (.int .i64 3)
      simp only [List.set_cons_zero, List.set_cons_succ, vwL_ats hsz, vwL_step hsz] at hS2
      have k25 := ((hS.blk 0 rfl).cell 25).trans (vwL_at hsz who seq u).2.1
      have k26 := ((hS.blk 0 rfl).cell 26).trans (vwL_at hsz who seq u).2.2.1
      have k27 := ((hS.blk 0 rfl).cell 27).trans (vwL_at hsz who seq u).2.2.2.1
      have k28 := ((hS.blk 0 rfl).cell 28).trans (vwL_at hsz who seq u).2.2.2.2.1
      have k29 := ((hS.blk 0 rfl).cell 29).trans (vwL_at hsz who seq u).2.2.2.2.2.1
      have k30 := ((hS.blk 0 rfl).cell 30).trans (vwL_at hsz who seq u).2.2.2.2.2.2.1
      have k31 := ((hS.blk 0 rfl).cell 31).trans (vwL_at hsz who seq u).2.2.2.2.2.2.2
      have f26 := (hS.blk 0 rfl).froz 26
      have f27 := (hS.blk 0 rfl).froz 27
      have f28 := (hS.blk 0 rfl).froz 28
      have f29 := (hS.blk 0 rfl).froz 29
      have f30 := (hS.blk 0 rfl).froz 30
      have f31 := (hS.blk 0 rfl).froz 31
      have kl := (hS.blk 0 rfl).lt
      try dsimp only at k26 k27 k28 k29 k30 k31
      have HS := Lib.hid hS; have HS2 := Lib.hid hS2
      clear hS hS2
      cases g
      · go_wp2_with fail
        go_end0
        exact ⟨rfl, HS.out⟩
      · go_wp2_with fail
        go_end0
        exact ⟨rfl, HS2.out⟩
  · have g1 : decide (q1 ≥ 7) = false := by simpa using h1
    obtain rfl : ok = false := by rw [hin]; simp; omega
    clear hin h1
    have HBG := Lib.hid (fun (w2 : World) (hS : Sep w0 w2 (blkT b 152 (vwL cs who seq v) :: R)) => begin_any b cs hsz who seq v false hS)
    generalize bgn false v = r at HBG ⊢
    obtain ⟨u, g⟩ := r
    dsimp only at HBG ⊢
    go_enter Try.func91, Try.ntmps91
    go_wp2_with
      (refine wpList_load_any 31 _ rfl rfl _ 0 rfl cs _ hmd Try.underlying31 rfl (by rw [hsz]; kernel_rfl) ?_)
    refine (HW.out _).mono ?_
    rintro e w1 ⟨rfl, hf⟩
    have HS := Lib.hid (HS.out.fr0 hf)
    clear hf hmd
    go_wp2_with fail
    refine (HBG.out _ HS.out).mono ?_
    rintro e w2 ⟨rfl, hS⟩
    have hS2 := (hS.set 0 rfl 29 (.int .i64 p)).set 0 rfl 27 (.int .i64 3)
    simp only [List.set_cons_zero, List.set_cons_succ, vwL_ats hsz, vwL_step hsz] at hS2
    have k25 := ((hS.blk 0 rfl).cell 25).trans (vwL_at hsz who seq u).2.1
    have k26 := ((hS.blk 0 rfl).cell 26).trans (vwL_at hsz who seq u).2.2.1
    have k27 := ((hS.blk 0 rfl).cell 27).trans (vwL_at hsz who seq u).2.2.2.1
    have k28 := ((hS.blk 0 rfl).cell 28).trans (vwL_at hsz who seq u).2.2.2.2.1
    have k29 := ((hS.blk 0 rfl).cell 29).trans (vwL_at hsz who seq u).2.2.2.2.2.1
    have k30 := ((hS.blk 0 rfl).cell 30).trans (vwL_at hsz who seq u).2.2.2.2.2.2.1
    have k31 := ((hS.blk 0 rfl).cell 31).trans (vwL_at hsz who seq u).2.2.2.2.2.2.2
    have f26 := (hS.blk 0 rfl).froz 26
    have f27 := (hS.blk 0 rfl).froz 27
    have f28 := (hS.blk 0 rfl).froz 28
    have f29 := (hS.blk 0 rfl).froz 29
    have f30 := (hS.blk 0 rfl).froz 30
    have f31 := (hS.blk 0 rfl).froz 31
    have kl := (hS.blk 0 rfl).lt
    try dsimp only at k26 k27 k28 k29 k30 k31
    have HS := Lib.hid hS; have HS2 := Lib.hid hS2
    clear hS hS2
    cases g
    · go_wp2_with fail
      go_end0
      exact ⟨rfl, HS.out⟩
    · go_wp2_with fail
      go_end0
      exact ⟨rfl, HS2.out⟩
set_option maxHeartbeats 2000000 in
theorem vword_any {w0 w : World} {R : List Thing} (b : Nat) (c : Cfg) (hok : Ok c) (who seq : Int) (v : V) (block x : Int) (hS : Sep w0 w (blkT b 152 (vwL (mapCells c) who seq v) :: R)) :
    Calls Try.prog 90 #[.pointer (some ⟨b, 0, none⟩), .int .i64 block, .int .i64 x] w fun e w' => e = .returned (.tuple #[]) ∧ Sep w0 w' (blkT b 152 (vwL (mapCells c) who seq (word c block x v)) :: R) := by
  unfold word
  have hB0 := hS.blk 0 rfl
  have hmd : w.rangeAt b 0 (mapCells c) := hB0.pre
  have hsz : (mapCells c).length = 24 := rfl
  have HS := Lib.hid hS
  clear hS hB0
  have HA := Lib.hid (fun w => at_any w c hok 16 block x)
  unfold mapV at HA
  generalize mapCells c = cs at *
  generalize Y.at_ c 16 block x = a at *
  by_cases hk : a = -1
  · have g1 : (a != -1) = false := by simp [hk]
    have g2 : decide (a ≠ -1) = false := by simp [hk]
    rw [g2]
    clear hk g2
    have HBG := Lib.hid (fun (w2 : World) (hS : Sep w0 w2 (blkT b 152 (vwL cs who seq v) :: R)) => begin_any b cs hsz who seq v false hS)
    generalize bgn false v = r at HBG ⊢
    obtain ⟨u, g⟩ := r
    dsimp only at HBG ⊢
    go_enter Try.func90, Try.ntmps90
    go_wp2_with
      (refine wpList_load_any 31 _ rfl rfl _ 0 rfl cs _ hmd Try.underlying31 rfl (by rw [hsz]; kernel_rfl) ?_)
    refine (HA.out _).mono ?_
    rintro e w1 ⟨rfl, hf⟩
    have HS := Lib.hid (HS.out.fr0 hf)
    clear hf hmd
    go_wp2_with fail
    try rw [g1]
    clear g1
    refine (HBG.out _ HS.out).mono ?_
    rintro e w2 ⟨rfl, hS⟩
    have HS := Lib.hid hS
    clear hS
    cases g
    · go_wp2_with fail
      go_end0
      exact ⟨rfl, HS.out⟩
    · go_wp2_with fail
      refine (touch_any b cs hsz who seq u block a HS.out).mono ?_
      rintro e w3 ⟨rfl, hS⟩
      go_wp2_with fail
      go_end0
      exact ⟨rfl, hS⟩
  · have g1 : (a != -1) = true := by simp [hk]
    have g2 : decide (a ≠ -1) = true := by simp [hk]
    rw [g2]
    clear hk g2
    have HBG := Lib.hid (fun (w2 : World) (hS : Sep w0 w2 (blkT b 152 (vwL cs who seq v) :: R)) => begin_any b cs hsz who seq v true hS)
    generalize bgn true v = r at HBG ⊢
    obtain ⟨u, g⟩ := r
    dsimp only at HBG ⊢
    go_enter Try.func90, Try.ntmps90
    go_wp2_with
      (refine wpList_load_any 31 _ rfl rfl _ 0 rfl cs _ hmd Try.underlying31 rfl (by rw [hsz]; kernel_rfl) ?_)
    refine (HA.out _).mono ?_
    rintro e w1 ⟨rfl, hf⟩
    have HS := Lib.hid (HS.out.fr0 hf)
    clear hf hmd
    go_wp2_with fail
    try rw [g1]
    clear g1
    refine (HBG.out _ HS.out).mono ?_
    rintro e w2 ⟨rfl, hS⟩
    have HS := Lib.hid hS
    clear hS
    cases g
    · go_wp2_with fail
      go_end0
      exact ⟨rfl, HS.out⟩
    · go_wp2_with fail
      refine (touch_any b cs hsz who seq u block a HS.out).mono ?_
      rintro e w3 ⟨rfl, hS⟩
      go_wp2_with fail
      go_end0
      exact ⟨rfl, hS⟩
set_option maxHeartbeats 2000000 in
theorem vlive_any {w0 w : World} {R : List Thing} (b : Nat) (c : Cfg) (hok : Ok c) (who seq : Int) (v : V) (block : Int) (hS : Sep w0 w (blkT b 152 (vwL (mapCells c) who seq v) :: R)) :
    Calls Try.prog 92 #[.pointer (some ⟨b, 0, none⟩), .int .i64 block] w fun e w' => e = .returned (.tuple #[]) ∧ Sep w0 w' (blkT b 152 (vwL (mapCells c) who seq (live c block v)) :: R) := by
  unfold live
  have hB0 := hS.blk 0 rfl
  have hmd : w.rangeAt b 0 (mapCells c) := hB0.pre
  have hsz : (mapCells c).length = 24 := rfl
  have HS := Lib.hid hS
  clear hS hB0
  have HA := Lib.hid (fun w => at_any w c hok 11 block 0)
  unfold mapV at HA
  generalize mapCells c = cs at *
  generalize Y.at_ c 11 block 0 = a at *
  by_cases hk : a = -1
  · have g1 : (a != -1) = false := by simp [hk]
    have g2 : decide (a ≠ -1) = false := by simp [hk]
    rw [g2]
    clear hk g2
    have HBG := Lib.hid (fun (w2 : World) (hS : Sep w0 w2 (blkT b 152 (vwL cs who seq v) :: R)) => begin_any b cs hsz who seq v false hS)
    generalize bgn false v = r at HBG ⊢
    obtain ⟨u, g⟩ := r
    dsimp only at HBG ⊢
    go_enter Try.func92, Try.ntmps92
    go_wp2_with
      (refine wpList_load_any 31 _ rfl rfl _ 0 rfl cs _ hmd Try.underlying31 rfl (by rw [hsz]; kernel_rfl) ?_)
    refine (HA.out _).mono ?_
    rintro e w1 ⟨rfl, hf⟩
    have HS := Lib.hid (HS.out.fr0 hf)
    clear hf hmd
    go_wp2_with fail
    try rw [g1]
    clear g1
    refine (HBG.out _ HS.out).mono ?_
    rintro e w2 ⟨rfl, hS⟩
    have HS := Lib.hid hS
    clear hS
    cases g
    · go_wp2_with fail
      go_end0
      exact ⟨rfl, HS.out⟩
    · go_wp2_with fail
      refine (touch_any b cs hsz who seq u block (-1) HS.out).mono ?_
      rintro e w3 ⟨rfl, hS⟩
      go_wp2_with fail
      go_end0
      exact ⟨rfl, hS⟩
  · have g1 : (a != -1) = true := by simp [hk]
    have g2 : decide (a ≠ -1) = true := by simp [hk]
    rw [g2]
    clear hk g2
    have HBG := Lib.hid (fun (w2 : World) (hS : Sep w0 w2 (blkT b 152 (vwL cs who seq v) :: R)) => begin_any b cs hsz who seq v true hS)
    generalize bgn true v = r at HBG ⊢
    obtain ⟨u, g⟩ := r
    dsimp only at HBG ⊢
    go_enter Try.func92, Try.ntmps92
    go_wp2_with
      (refine wpList_load_any 31 _ rfl rfl _ 0 rfl cs _ hmd Try.underlying31 rfl (by rw [hsz]; kernel_rfl) ?_)
    refine (HA.out _).mono ?_
    rintro e w1 ⟨rfl, hf⟩
    have HS := Lib.hid (HS.out.fr0 hf)
    clear hf hmd
    go_wp2_with fail
    try rw [g1]
    clear g1
    refine (HBG.out _ HS.out).mono ?_
    rintro e w2 ⟨rfl, hS⟩
    have HS := Lib.hid hS
    clear hS
    cases g
    · go_wp2_with fail
      go_end0
      exact ⟨rfl, HS.out⟩
    · go_wp2_with fail
      refine (touch_any b cs hsz who seq u block (-1) HS.out).mono ?_
      rintro e w3 ⟨rfl, hS⟩
      go_wp2_with fail
      go_end0
      exact ⟨rfl, hS⟩
set_option maxHeartbeats 2000000 in
theorem vnew_any (w : World) (cs : List Value) (hsz : cs.length = 24) (who seq : Int) :
    Calls Try.prog 89 #[.agg cs.toArray, .int .i64 who, .int .u64 seq] w fun e w' => ∃ b, e = .returned (.pointer (some ⟨b, 0, none⟩)) ∧ Sep w w' [blkT b 152 (vwL cs who seq ⟨-1, 0, 0, 0, 0, 1⟩)] := by
  have HS := Lib.hid ((Sep.nil (Fr.refl [] w)).new 31 cs)
  obtain ⟨x0,x1,x2,x3,x4,x5,x6,x7,x8,x9,x10,x11,x12,x13,x14,x15,x16,x17,x18,x19,x20,x21,x22,x23, rfl⟩ := len24 hsz
  go_enter Try.func89, Try.ntmps89
  go_wp2_with (refine wpList_load_any 31 _ rfl rfl _ 0 rfl _ _ (HS.out.blk 0 rfl).range Try.underlying31 rfl (by kernel_rfl) ?_)
  go_ret
  have hS := (HS.out.new 152 (vwL [x0, x1, x2, x3, x4, x5, x6, x7, x8, x9, x10, x11, x12, x13, x14, x15, x16, x17, x18, x19, x20, x21, x22, x23] who seq ⟨-1, 0, 0, 0, 0, 1⟩)).snd1
  simp only [World.size_alloc] at hS
  exact ⟨_, rfl, hS⟩
end Go.Proofs.Ytccioehckfdjdaa
