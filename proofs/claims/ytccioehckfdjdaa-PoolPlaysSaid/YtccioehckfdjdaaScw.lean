/- The walks of package scribe: Done, Tell, Ask. -/
import Derived.Test.YtccioehckfdjdaaYat
import Derived.Test.YtccioehckfdjdaaMLoad
import Derived.Test.YtccioehckfdjdaaMBase
set_option linter.unusedSimpArgs false
set_option linter.unusedVariables false
namespace Go.Tum
end Go.Tum
namespace Go.Tum.Sc
def enE (e : Int × Int) : List Value := [.int .i64 e.1, .int .u64 e.2]
theorem enE_len (e : Int × Int) : (enE e).length = 2 := rfl
theorem enE_one (e : Int × Int) : ∀ u ∈ enE e, u.oneCell' = true := by simp [enE, Value.oneCell']
/-- A thread that writes its log, as it stands in memory. -/
def scL (cs : List Value) (who seq : Int) (v : Value) (d : Nat) : List Value := cs ++ [.int .i64 who, .int .u64 seq, v, .int .i64 d]
theorem scL_at {cs : List Value} (hsz : cs.length = 24) (who seq : Int) (v : Value) (d : Nat) :
    (scL cs who seq v d)[24]? = some (.int .i64 who) ∧ (scL cs who seq v d)[25]? = some (.int .u64 seq) ∧ (scL cs who seq v d)[26]? = some v ∧ (scL cs who seq v d)[27]? = some (.int .i64 d) := by
  unfold scL
  refine ⟨?_, ?_, ?_, ?_⟩ <;> (rw [List.getElem?_append_right (by omega), hsz]; rfl)
theorem scL_set {cs : List Value} (hsz : cs.length = 24) (who seq : Int) (v : Value) (d d' : Nat) : (scL cs who seq v d).set 27 (.int .i64 d') = scL cs who seq v d' := by
  unfold scL
  rw [List.set_append_right _ _ (by omega), hsz]; rfl
end Go.Tum.Sc
namespace Go.Proofs.Ytccioehckfdjdaa
open Go.RowKit Go.Tum Go.Tum.Y Go.Tum.Sc
set_option maxHeartbeats 1000000 in
theorem done_any (w : World) (b : Nat) (cs : List Value) (hsz : cs.length = 24) (who seq : Int) (la : Option Addr) (n lc d : Nat) (hB : Blk w b 205 (scL cs who seq (.slice la n lc) d)) (hn : n ≤ 100000) (hd : d ≤ 100000) :
    Calls Try.prog 87 #[.pointer (some ⟨b, 0, none⟩)] w fun e w' => e = .returned (.bool (decide (d > n + 1))) ∧ Fr [] w w' := by
  have k24 : w.cell? ⟨b, 24, none⟩ = some (.int .i64 who) := (hB.cell 24).trans (scL_at hsz who seq (.slice la n lc) d).1
  have k25 : w.cell? ⟨b, 25, none⟩ = some (.int .u64 seq) := (hB.cell 25).trans (scL_at hsz who seq (.slice la n lc) d).2.1
  have k26 : w.cell? ⟨b, 26, none⟩ = some (.slice la n lc) := (hB.cell 26).trans (scL_at hsz who seq (.slice la n lc) d).2.2.1
  have k27 : w.cell? ⟨b, 27, none⟩ = some (.int .i64 d) := (hB.cell 27).trans (scL_at hsz who seq (.slice la n lc) d).2.2.2
  have hbl := hB.lt
  clear hB
  have hni : (n : Int) ≤ 100000 := by omega
  have e : decide ((d : Int) > (n : Int) + 1) = decide (d > n + 1) := by
    by_cases h : d > n + 1
    · rw [decide_eq_true h, decide_eq_true (show (d : Int) > (n : Int) + 1 by omega)]
    · rw [decide_eq_false h, decide_eq_false (show ¬ (d : Int) > (n : Int) + 1 by omega)]
  generalize decide (d > n + 1) = r at *
  go_enter Try.func87, Try.ntmps87
  go_wp2
  refine wp_region_fr [(1, [0, 1, 2, 3, 4, 5, 6, 7, 8, 9, 10, 11])] [] (by kernel_rfl) (by kernel_rfl) ?_
  simp only [theOps, nthOp, List.map_cons, List.map_nil, Array.getD_eq_getD_getElem?, List.getElem?_toArray, List.getElem?_cons_succ, List.getElem?_cons_zero, Option.getD_some]
  repeat ((first | refine wpSegs_soft ?_ | refine wpSegs_pure ?_ | refine wpSegs_here ?_); (repeat (first | go_big_quiet_step (fail) | quiet_step (fail))); refine wpQuiet_nil ?_)
  refine wpSegs_done ?_
  go_wp2_with fail
  go_ret
  exact ⟨rfl, (Fr.refl [] _).drew⟩
set_option maxHeartbeats 1000000 in
theorem tell_go {w0 w : World} {R : List Thing} (b : Nat) (cs : List Value) (hsz : cs.length = 24) (who seq : Int) (la : Option Addr) (n lc d : Nat) (x y : Int) (z : Bool) (hS : Sep w0 w (blkT b 205 (scL cs who seq (.slice la n lc) d) :: R)) (hn : n ≤ 100000) (hd : d ≤ 100000) (hdn : decide (d > n + 1) = false) :
    Calls Try.prog 86 #[.pointer (some ⟨b, 0, none⟩), .agg #[.int .u64 x, .int .u64 y, .bool z]] w fun e w' => e = .returned (.tuple #[]) ∧ Sep w0 w' (blkT b 205 (scL cs who seq (.slice la n lc) (d + 1)) :: R) := by
  have HS := Lib.hid (hS.alloc (.cells [.int .u64 x, .int .u64 y, .bool z].toArray 55)); clear hS
  have HD := Lib.hid (done_any _ b cs hsz who seq la n lc d (HS.out.blk 0 rfl) hn hd)
  rw [hdn] at HD
  go_enter Try.func86, Try.ntmps86
  go_wp2_with fail
  refine HD.out.mono ?_
  rintro e w1 ⟨rfl, hf⟩
  have hS := HS.out.fr0 hf
  clear hf HS HD
  have k27 : w1.cell? ⟨b, 27, none⟩ = some (.int .i64 d) := ((hS.blk 0 rfl).cell 27).trans (scL_at hsz who seq (.slice la n lc) d).2.2.2
  have f27 := (hS.blk 0 rfl).froz 27
  have hbl := (hS.blk 0 rfl).lt
  have hS2 := hS.set 0 rfl 27 (.int .i64 (d + 1 : Nat))
  rw [scL_set hsz] at hS2
  have HS := Lib.hid hS; have HS2 := Lib.hid hS2
  clear hS hS2
  go_wp2_with fail
  go_end0
  exact ⟨rfl, HS2.out⟩
set_option maxHeartbeats 1000000 in
theorem tell_stop {w0 w : World} {R : List Thing} (b : Nat) (cs : List Value) (hsz : cs.length = 24) (who seq : Int) (la : Option Addr) (n lc d : Nat) (x y : Int) (z : Bool) (hS : Sep w0 w (blkT b 205 (scL cs who seq (.slice la n lc) d) :: R)) (hn : n ≤ 100000) (hd : d ≤ 100000) (hdn : decide (d > n + 1) = true) :
    Calls Try.prog 86 #[.pointer (some ⟨b, 0, none⟩), .agg #[.int .u64 x, .int .u64 y, .bool z]] w fun e w' => e = .returned (.tuple #[]) ∧ Sep w0 w' (blkT b 205 (scL cs who seq (.slice la n lc) (d)) :: R) := by
  have HS := Lib.hid (hS.alloc (.cells [.int .u64 x, .int .u64 y, .bool z].toArray 55)); clear hS
  have HD := Lib.hid (done_any _ b cs hsz who seq la n lc d (HS.out.blk 0 rfl) hn hd)
  rw [hdn] at HD
  go_enter Try.func86, Try.ntmps86
  go_wp2_with fail
  refine HD.out.mono ?_
  rintro e w1 ⟨rfl, hf⟩
  have hS := HS.out.fr0 hf
  clear hf HS HD
  have k27 : w1.cell? ⟨b, 27, none⟩ = some (.int .i64 d) := ((hS.blk 0 rfl).cell 27).trans (scL_at hsz who seq (.slice la n lc) d).2.2.2
  have f27 := (hS.blk 0 rfl).froz 27
  have hbl := (hS.blk 0 rfl).lt
  have hS2 := hS.set 0 rfl 27 (.int .i64 (d + 1 : Nat))
  rw [scL_set hsz] at hS2
  have HS := Lib.hid hS; have HS2 := Lib.hid hS2
  clear hS hS2
  go_wp2_with fail
  go_end0
  exact ⟨rfl, HS.out⟩
end Go.Proofs.Ytccioehckfdjdaa
