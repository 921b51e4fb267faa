/- Chapter 9: the law's own example. -/
import Derived.Test.YtccioehckfdjdaaVw2
import Derived.Test.YtccioehckfdjdaaVask
set_option linter.unusedSimpArgs false
set_option linter.unusedVariables false
namespace Go.Tum.Vw
open Go.Tum.Y
def cA : Cfg := ⟨2, 3, 4, 50, 5, 99⟩
theorem okA : Ok cA := ⟨by decide, by decide, by decide, by decide, by decide, by decide, by decide, by decide, by decide, by decide⟩
end Go.Tum.Vw
namespace Go.Proofs.Ytccioehckfdjdaa
open Go.RowKit Go.Tum Go.Tum.Y Go.Tum.Vw
def v0 : V := ⟨-1, 0, 0, 0, 0, 1⟩
def v1 : V := ⟨-1, 1, 2, 169, 0, 0⟩
def v2 : V := ⟨-1, 2, 2, 169, 0, 0⟩
def v3 : V := ⟨2, 3, 2, 169, 0, 0⟩
def v4 : V := ⟨2, 0, 2, 169, 9, 1⟩
def v5 : V := ⟨2, 3, 2, 134, 0, 0⟩
def v6 : V := ⟨2, 0, 2, 134, 0, 2⟩
theorem sample09_any (w : World) : Calls Try.prog 88 #[] w fun e w' => e = .returned (.agg [Value.int .i64 2, .int .i64 3, .int .i64 4, .int .i64 50, .int .u64 5, .int .u64 99].toArray) ∧ Fr [] w w' := by
  have HS := Lib.hid ((Sep.nil (Fr.refl [] w)).new 24 [Value.int .i64 2, .int .i64 3, .int .i64 4, .int .i64 50, .int .u64 5, .int .u64 99])
  go_enter Try.func88, Try.ntmps88
  go_wp2_with fail
  exact bodyPost_ret (v := .agg [Value.int .i64 2, .int .i64 3, .int .i64 4, .int .i64 50, .int .u64 5, .int .u64 99].toArray) (res_cell Try.results88 rfl (HS.out.blk 0 rfl).range Try.underlying24 rfl (by kernel_rfl)) rfl ⟨rfl, HS.out.fr⟩
set_option maxRecDepth 100000 in
set_option maxHeartbeats 8000000 in
theorem alive09_any (w : World) : Calls Try.prog 15 #[] w fun e w' => e = .returned (.bool true) ∧ Fr [] w w' := by
  have HOF : Hid (∀ w, Calls Try.prog 25 #[.agg #[.int .i64 2, .int .i64 3, .int .i64 4, .int .i64 50, .int .u64 5, .int .u64 99]] w fun e w' => e = .returned (.tuple #[mapV cA, .int .i64 0]) ∧ Fr [] w w') := fun w => of_good w cA okA
  have HNW : Hid (∀ w, Calls Try.prog 89 #[mapV cA, .int .i64 1, .int .u64 6] w fun e w' => ∃ b, e = .returned (.pointer (some ⟨b, 0, none⟩)) ∧ Sep w w' [blkT b 152 (vwL (mapCells cA) 1 6 v0)]) := fun w => vnew_any w (mapCells cA) rfl 1 6
  have T1 : Hid (∀ w0 w R b, Sep w0 w (blkT b 152 (vwL (mapCells cA) 1 6 v0) :: R) → Calls Try.prog 90 #[.pointer (some ⟨b, 0, none⟩), .int .i64 2, .int .i64 4] w fun e w' => e = .returned (.tuple #[]) ∧ Sep w0 w' (blkT b 152 (vwL (mapCells cA) 1 6 v1) :: R)) := fun w0 w R b hS => by
    have := vword_any b cA okA 1 6 v0 2 4 hS
    rw [show Vw.word cA 2 4 v0 = v1 from by decide] at this
    exact this
  have T2 : Hid (∀ w0 w R b, Sep w0 w (blkT b 152 (vwL (mapCells cA) 1 6 v1) :: R) → Calls Try.prog 22 #[.pointer (some ⟨b, 0, none⟩), .agg #[.int .u64 0, .int .u64 0, .bool true]] w fun e w' => e = .returned (.tuple #[]) ∧ Sep w0 w' (blkT b 152 (vwL (mapCells cA) 1 6 v2) :: R)) := fun w0 w R b hS => by
    have := vtell_any b _ rfl 1 6 v1 0 0 true hS
    rw [show Vw.tell 6 0 0 v1 = v2 from by decide] at this
    exact this
  have T3 : Hid (∀ w0 w R b, Sep w0 w (blkT b 152 (vwL (mapCells cA) 1 6 v2) :: R) → Calls Try.prog 22 #[.pointer (some ⟨b, 0, none⟩), .agg #[.int .u64 1, .int .u64 6, .bool false]] w fun e w' => e = .returned (.tuple #[]) ∧ Sep w0 w' (blkT b 152 (vwL (mapCells cA) 1 6 v3) :: R)) := fun w0 w R b hS => by
    have := vtell_any b _ rfl 1 6 v2 1 6 false hS
    rw [show Vw.tell 6 1 6 v2 = v3 from by decide] at this
    exact this
  have T4 : Hid (∀ w0 w R b, Sep w0 w (blkT b 152 (vwL (mapCells cA) 1 6 v3) :: R) → Calls Try.prog 22 #[.pointer (some ⟨b, 0, none⟩), .agg #[.int .u64 9, .int .u64 3, .bool false]] w fun e w' => e = .returned (.tuple #[]) ∧ Sep w0 w' (blkT b 152 (vwL (mapCells cA) 1 6 v4) :: R)) := fun w0 w R b hS => by
    have := vtell_any b _ rfl 1 6 v3 9 3 false hS
    rw [show Vw.tell 6 9 3 v3 = v4 from by decide] at this
    exact this
  have T5 : Hid (∀ w0 w R b, Sep w0 w (blkT b 152 (vwL (mapCells cA) 1 6 v4) :: R) → Calls Try.prog 91 #[.pointer (some ⟨b, 0, none⟩), .int .i64 134] w fun e w' => e = .returned (.tuple #[]) ∧ Sep w0 w' (blkT b 152 (vwL (mapCells cA) 1 6 v5) :: R)) := fun w0 w R b hS => by
    have := vcell_any b cA okA 1 6 v4 134 hS
    rw [show Vw.cell cA 134 v4 = v5 from by decide] at this
    exact this
  have T6 : Hid (∀ w0 w R b, Sep w0 w (blkT b 152 (vwL (mapCells cA) 1 6 v5) :: R) → Calls Try.prog 22 #[.pointer (some ⟨b, 0, none⟩), .agg #[.int .u64 9, .int .u64 7, .bool false]] w fun e w' => e = .returned (.tuple #[]) ∧ Sep w0 w' (blkT b 152 (vwL (mapCells cA) 1 6 v6) :: R)) := fun w0 w R b hS => by
    have := vtell_any b _ rfl 1 6 v5 9 7 false hS
    rw [show Vw.tell 6 9 7 v5 = v6 from by decide] at this
    exact this
  have T7 : Hid (∀ w0 w R b, Sep w0 w (blkT b 152 (vwL (mapCells cA) 1 6 v6) :: R) → Calls Try.prog 92 #[.pointer (some ⟨b, 0, none⟩), .int .i64 0] w fun e w' => e = .returned (.tuple #[]) ∧ Sep w0 w' (blkT b 152 (vwL (mapCells cA) 1 6 v6) :: R)) := fun w0 w R b hS => by
    have := vlive_any b cA okA 1 6 v6 0 hS
    rw [show Vw.live cA 0 v6 = v6 from by decide] at this
    exact this
  have A1 : Hid (∀ w b, Blk w b 152 (vwL (mapCells cA) 1 6 v1) → Calls Try.prog 19 #[.pointer (some ⟨b, 0, none⟩)] w fun e w' => e = .returned (.tuple #[.agg ([Value.int .i64 1, .int .i64 60, .int .u64 0, .int .u64 0, .int .u64 3, .int .u64 0]).toArray, .bool true]) ∧ Fr [] w w') := fun w b hB => by
    have := vask_any w cA okA b 1 6 v1 hB
    rw [show Vw.ask cA 1 v1 = (⟨1, 60, 0, 0, 3, 0⟩, true) from by decide] at this
    exact this
  have A2 : Hid (∀ w b, Blk w b 152 (vwL (mapCells cA) 1 6 v2) → Calls Try.prog 19 #[.pointer (some ⟨b, 0, none⟩)] w fun e w' => e = .returned (.tuple #[.agg ([Value.int .i64 0, .int .i64 133, .int .u64 0, .int .u64 0, .int .u64 0, .int .u64 0]).toArray, .bool true]) ∧ Fr [] w w') := fun w b hB => by
    have := vask_any w cA okA b 1 6 v2 hB
    rw [show Vw.ask cA 1 v2 = (⟨0, 133, 0, 0, 0, 0⟩, true) from by decide] at this
    exact this
  have A3 : Hid (∀ w b, Blk w b 152 (vwL (mapCells cA) 1 6 v3) → Calls Try.prog 19 #[.pointer (some ⟨b, 0, none⟩)] w fun e w' => e = .returned (.tuple #[.agg ([Value.int .i64 0, .int .i64 169, .int .u64 0, .int .u64 0, .int .u64 0, .int .u64 0]).toArray, .bool true]) ∧ Fr [] w w') := fun w b hB => by
    have := vask_any w cA okA b 1 6 v3 hB
    rw [show Vw.ask cA 1 v3 = (⟨0, 169, 0, 0, 0, 0⟩, true) from by decide] at this
    exact this
  have A4 : Hid (∀ w b, Blk w b 152 (vwL (mapCells cA) 1 6 v4) → Calls Try.prog 19 #[.pointer (some ⟨b, 0, none⟩)] w fun e w' => e = .returned (.tuple #[.agg ([Value.int .i64 0, .int .i64 0, .int .u64 0, .int .u64 0, .int .u64 0, .int .u64 0]).toArray, .bool false]) ∧ Fr [] w w') := fun w b hB => by
    have := vask_any w cA okA b 1 6 v4 hB
    rw [show Vw.ask cA 1 v4 = (p0, false) from by decide] at this
    exact this
  have A5 : Hid (∀ w b, Blk w b 152 (vwL (mapCells cA) 1 6 v5) → Calls Try.prog 19 #[.pointer (some ⟨b, 0, none⟩)] w fun e w' => e = .returned (.tuple #[.agg ([Value.int .i64 0, .int .i64 134, .int .u64 0, .int .u64 0, .int .u64 0, .int .u64 0]).toArray, .bool true]) ∧ Fr [] w w') := fun w b hB => by
    have := vask_any w cA okA b 1 6 v5 hB
    rw [show Vw.ask cA 1 v5 = (⟨0, 134, 0, 0, 0, 0⟩, true) from by decide] at this
    exact this
  have A6 : Hid (∀ w b, Blk w b 152 (vwL (mapCells cA) 1 6 v6) → Calls Try.prog 19 #[.pointer (some ⟨b, 0, none⟩)] w fun e w' => e = .returned (.tuple #[.agg ([Value.int .i64 0, .int .i64 0, .int .u64 0, .int .u64 0, .int .u64 0, .int .u64 0]).toArray, .bool false]) ∧ Fr [] w w') := fun w b hB => by
    have := vask_any w cA okA b 1 6 v6 hB
    rw [show Vw.ask cA 1 v6 = (p0, false) from by decide] at this
    exact this
  have E3 : Hid (∀ w b, Blk w b 152 (vwL (mapCells cA) 1 6 v3) → Calls Try.prog 21 #[.pointer (some ⟨b, 0, none⟩)] w fun e w' => e = .returned (.tuple #[.int .u64 0, .int .i64 0]) ∧ Fr [] w w') := fun w b hB => vend_any w b _ rfl 1 6 v3 hB
  have E4 : Hid (∀ w b, Blk w b 152 (vwL (mapCells cA) 1 6 v4) → Calls Try.prog 21 #[.pointer (some ⟨b, 0, none⟩)] w fun e w' => e = .returned (.tuple #[.int .u64 9, .int .i64 1]) ∧ Fr [] w w') := fun w b hB => vend_any w b _ rfl 1 6 v4 hB
  have E6 : Hid (∀ w b, Blk w b 152 (vwL (mapCells cA) 1 6 v6) → Calls Try.prog 21 #[.pointer (some ⟨b, 0, none⟩)] w fun e w' => e = .returned (.tuple #[.int .u64 0, .int .i64 2]) ∧ Fr [] w w') := fun w b hB => vend_any w b _ rfl 1 6 v6 hB
  have HH : Hid (∀ w b, Blk w b 152 (vwL (mapCells cA) 1 6 v6) → Calls Try.prog 23 #[.pointer (some ⟨b, 0, none⟩)] w fun e w' => e = .returned (.int .i64 2) ∧ Fr [] w w') := fun w b hB => held_any w b _ rfl 1 6 v6 hB
  have P1 : Hid (∀ w, Calls Try.prog 37 #[mapV cA, .int .i64 3, .int .i64 1, .int .i64 0] w fun e w' => e = .returned (.int .i64 60) ∧ Fr [] w w') := fun w => by
    have := at_any w cA okA 3 1 0
    rwa [show Y.at_ cA 3 1 0 = 60 from by decide] at this
  have P2 : Hid (∀ w, Calls Try.prog 37 #[mapV cA, .int .i64 11, .int .i64 2, .int .i64 0] w fun e w' => e = .returned (.int .i64 133) ∧ Fr [] w w') := fun w => by
    have := at_any w cA okA 11 2 0
    rwa [show Y.at_ cA 11 2 0 = 133 from by decide] at this
  have P3 : Hid (∀ w, Calls Try.prog 37 #[mapV cA, .int .i64 16, .int .i64 2, .int .i64 4] w fun e w' => e = .returned (.int .i64 169) ∧ Fr [] w w') := fun w => by
    have := at_any w cA okA 16 2 4
    rwa [show Y.at_ cA 16 2 4 = 169 from by decide] at this
  have P4 : Hid (∀ w, Calls Try.prog 37 #[mapV cA, .int .i64 12, .int .i64 0, .int .i64 0] w fun e w' => e = .returned (.int .i64 134) ∧ Fr [] w w') := fun w => by
    have := at_any w cA okA 12 0 0
    rwa [show Y.at_ cA 12 0 0 = 134 from by decide] at this
  have hsz : (mapCells cA).length = 24 := rfl
  have hone := oneMap cA
  unfold mapV at *
  generalize mapCells cA = cs at *
  generalize v0 = v0 at *
  generalize v1 = v1 at *
  generalize v2 = v2 at *
  generalize v3 = v3 at *
  generalize v4 = v4 at *
  generalize v5 = v5 at *
  generalize v6 = v6 at *
  go_enter Try.func15, Try.ntmps15
  go_wp2_with fail
  refine (sample09_any _).mono ?_
  rintro e w1 ⟨rfl, hf⟩
  have HF := Lib.hid hf; clear hf
  go_wp2_with fail
  refine (HOF.out _).mono ?_
  rintro e w2 ⟨rfl, hf⟩
  have HS := Lib.hid ((Sep.nil (HF.out.trans hf)).new 31 cs); clear hf HF
  go_wp2_with (first | (refine wpList_store_new 31 _ (cs).toArray rfl _ _ rfl rfl rfl (by rw [List.size_toArray, hsz]; kernel_rfl) (by simp [hsz]) (all_oneCell_toArray hone) ?_) | (refine wpList_load_any 31 _ rfl rfl _ 0 rfl cs _ (HS.out.blk 0 rfl).range Try.underlying31 rfl (by rw [hsz]; kernel_rfl) ?_))
  refine (HNW.out _).mono ?_
  rintro e w3 ⟨b, rfl, hN⟩
  have hS := HS.out.append hN
  simp only [List.cons_append, List.nil_append] at hS
  have HS := Lib.hid hS; clear hS hN
  go_wp2_with fail
  refine (HS.out.call 0 rfl (fun R hR => T1.out _ _ R _ hR)).mono ?_
  rintro e w1 ⟨rfl, hS⟩
  simp only [List.set_cons_zero, List.set_cons_succ] at hS
  have HS := Lib.hid hS; clear hS
  go_wp2_with fail
  refine (A1.out _ _ (HS.out.blk 0 rfl)).mono ?_
  rintro e w1 ⟨rfl, hf⟩
  have HS := Lib.hid ((HS.out.fr0 hf).new 43 [Value.int .i64 1, .int .i64 60, .int .u64 0, .int .u64 0, .int .u64 3, .int .u64 0]); clear hf
  go_wp2_with fail
  refine (HS.out.call 1 rfl (fun R hR => T2.out _ _ R _ hR)).mono ?_
  rintro e w1 ⟨rfl, hS⟩
  simp only [List.set_cons_zero, List.set_cons_succ] at hS
  have HS := Lib.hid hS; clear hS
  go_wp2_with fail
  refine (A2.out _ _ (HS.out.blk 1 rfl)).mono ?_
  rintro e w1 ⟨rfl, hf⟩
  have HS := Lib.hid ((HS.out.fr0 hf).new 43 [Value.int .i64 0, .int .i64 133, .int .u64 0, .int .u64 0, .int .u64 0, .int .u64 0]); clear hf
  go_wp2_with fail
  refine (HS.out.call 2 rfl (fun R hR => T3.out _ _ R _ hR)).mono ?_
  rintro e w1 ⟨rfl, hS⟩
  simp only [List.set_cons_zero, List.set_cons_succ] at hS
  have HS := Lib.hid hS; clear hS
  go_wp2_with fail
  refine (A3.out _ _ (HS.out.blk 2 rfl)).mono ?_
  rintro e w1 ⟨rfl, hf⟩
  have HS := Lib.hid ((HS.out.fr0 hf).new 43 [Value.int .i64 0, .int .i64 169, .int .u64 0, .int .u64 0, .int .u64 0, .int .u64 0]); clear hf
  go_wp2_with fail
  refine (E3.out _ _ (HS.out.blk 3 rfl)).mono ?_
  rintro e w1 ⟨rfl, hf⟩
  have HS := Lib.hid (HS.out.fr0 hf); clear hf
  go_wp2_with fail
  refine (HS.out.call 3 rfl (fun R hR => T4.out _ _ R _ hR)).mono ?_
  rintro e w1 ⟨rfl, hS⟩
  simp only [List.set_cons_zero, List.set_cons_succ] at hS
  have HS := Lib.hid hS; clear hS
  go_wp2_with fail
  refine (E4.out _ _ (HS.out.blk 3 rfl)).mono ?_
  rintro e w1 ⟨rfl, hf⟩
  have HS := Lib.hid (HS.out.fr0 hf); clear hf
  go_wp2_with fail
  refine (A4.out _ _ (HS.out.blk 3 rfl)).mono ?_
  rintro e w1 ⟨rfl, hf⟩
  have HS := Lib.hid ((HS.out.fr0 hf).new 43 [Value.int .i64 0, .int .i64 0, .int .u64 0, .int .u64 0, .int .u64 0, .int .u64 0]); clear hf
  go_wp2_with (first | (refine wpList_load_any 31 _ rfl rfl _ 0 rfl cs _ (HS.out.blk 5 rfl).range Try.underlying31 rfl (by rw [hsz]; kernel_rfl) ?_))
  refine (P4.out _).mono ?_
  rintro e w5 ⟨rfl, hf⟩
  have HS := Lib.hid (HS.out.fr0 hf); clear hf
  go_wp2_with fail
  refine (HS.out.call 4 rfl (fun R hR => T5.out _ _ R _ hR)).mono ?_
  rintro e w1 ⟨rfl, hS⟩
  simp only [List.set_cons_zero, List.set_cons_succ] at hS
  have HS := Lib.hid hS; clear hS
  go_wp2_with fail
  refine (A5.out _ _ (HS.out.blk 4 rfl)).mono ?_
  rintro e w1 ⟨rfl, hf⟩
  have HS := Lib.hid ((HS.out.fr0 hf).new 43 [Value.int .i64 0, .int .i64 134, .int .u64 0, .int .u64 0, .int .u64 0, .int .u64 0]); clear hf
  go_wp2_with fail
  refine (HS.out.call 5 rfl (fun R hR => T6.out _ _ R _ hR)).mono ?_
  rintro e w1 ⟨rfl, hS⟩
  simp only [List.set_cons_zero, List.set_cons_succ] at hS
  have HS := Lib.hid hS; clear hS
  go_wp2_with fail
  refine (E6.out _ _ (HS.out.blk 5 rfl)).mono ?_
  rintro e w1 ⟨rfl, hf⟩
  have HS := Lib.hid (HS.out.fr0 hf); clear hf
  go_wp2_with fail
  refine (HS.out.call 5 rfl (fun R hR => T7.out _ _ R _ hR)).mono ?_
  rintro e w1 ⟨rfl, hS⟩
  simp only [List.set_cons_zero, List.set_cons_succ] at hS
  have HS := Lib.hid hS; clear hS
  go_wp2_with fail
  refine (A6.out _ _ (HS.out.blk 5 rfl)).mono ?_
  rintro e w1 ⟨rfl, hf⟩
  have HS := Lib.hid ((HS.out.fr0 hf).new 43 [Value.int .i64 0, .int .i64 0, .int .u64 0, .int .u64 0, .int .u64 0, .int .u64 0]); clear hf
  have a0 := (HS.out.blk 5 rfl).cell 0
  have a1 := (HS.out.blk 5 rfl).cell 1
  have a4 := (HS.out.blk 5 rfl).cell 4
  have al := (HS.out.blk 5 rfl).lt
  have b0 := (HS.out.blk 4 rfl).cell 0
  have b1 := (HS.out.blk 4 rfl).cell 1
  have bl := (HS.out.blk 4 rfl).lt
  have c1 := (HS.out.blk 3 rfl).cell 1
  have c1l := (HS.out.blk 3 rfl).lt
  have d1 := (HS.out.blk 1 rfl).cell 1
  have d1l := (HS.out.blk 1 rfl).lt
  simp only [List.getElem?_cons_zero, List.getElem?_cons_succ] at a0 a1 a4 b0 b1 c1 d1
  have hmd := (HS.out.blk 7 rfl).drew
  have hBV := (HS.out.blk 6 rfl).drew
  have HSD := Lib.hid HS.out.drew
  go_wp2_with fail
  have HF := Lib.hid (Fr.refl [] (w1.alloc (.cells #[Value.int .i64 0, .int .i64 0, .int .u64 0, .int .u64 0, .int .u64 0, .int .u64 0] 43)).drew)
  refine wp_region_fr [(1, [0, 1, 2, 3, 4, 5, 6, 7, 8, 9]), (2, [10]), (1, [11, 12, 13, 14, 15, 16, 17, 18, 19, 20, 21, 22, 23, 24, 25, 26, 27, 28, 29, 30]), (2, [31]), (1, [32, 33, 34, 35, 36, 37, 38, 39, 40]), (2, [41]), (1, [42, 43, 44, 45, 46, 47, 48, 49, 50, 51, 52, 53, 54, 55, 56, 57, 58, 59, 60, 61]), (2, [62]), (1, [63, 64, 65, 66, 67, 68, 69, 70, 71]), (2, [72]), (0, [73, 74, 75, 76, 77, 78, 79, 80, 81, 82, 83])] [] (by kernel_rfl) (by kernel_rfl) ?_
  simp only [theOps, nthOp, List.map_cons, List.map_nil, Array.getD_eq_getD_getElem?, List.getElem?_toArray, List.getElem?_cons_succ, List.getElem?_cons_zero, Option.getD_some]
  refine wpSegs_soft ?_
  repeat (first | (refine wpQuiet_load_mid 31 _ _ 0 cs _ rfl rfl rfl (rangeAt_after hmd (by simp)) Try.underlying31 rfl (by rw [hsz]; kernel_rfl) ?_; simp only [Act.put, List.setIfInBounds_toArray, List.set_cons_zero, List.set_cons_succ]) | go_big_quiet_step (fail) | quiet_step (fail))
  refine wpQuiet_nil ?_
  refine wpSegs_keep ?_
  go_wp2_with fail
  refine (P1.out _).mono ?_
  rintro e w8 ⟨rfl, hf⟩
  have HF := Lib.hid (HF.out.trans hf); clear hf
  go_wp2_with fail
  refine ⟨⟨⟨_, (by exact HF.out)⟩, rfl⟩, ?_⟩
  refine wpSegs_soft ?_
  repeat (first | (refine wpQuiet_load_mid 31 _ _ 0 cs _ rfl rfl rfl (rangeAt_after hmd (by simp)) Try.underlying31 rfl (by rw [hsz]; kernel_rfl) ?_; simp only [Act.put, List.setIfInBounds_toArray, List.set_cons_zero, List.set_cons_succ]) | go_big_quiet_step (fail) | quiet_step (fail))
  refine wpQuiet_nil ?_
  refine wpSegs_keep ?_
  go_wp2_with fail
  refine (P2.out _).mono ?_
  rintro e w8 ⟨rfl, hf⟩
  have HF := Lib.hid (HF.out.trans hf); clear hf
  go_wp2_with fail
  refine ⟨⟨⟨_, (by exact HF.out)⟩, rfl⟩, ?_⟩
  refine wpSegs_soft ?_
  repeat (first | (refine wpQuiet_load_mid 31 _ _ 0 cs _ rfl rfl rfl (rangeAt_after hmd (by simp)) Try.underlying31 rfl (by rw [hsz]; kernel_rfl) ?_; simp only [Act.put, List.setIfInBounds_toArray, List.set_cons_zero, List.set_cons_succ]) | go_big_quiet_step (fail) | quiet_step (fail))
  refine wpQuiet_nil ?_
  refine wpSegs_keep ?_
  go_wp2_with fail
  refine (P3.out _).mono ?_
  rintro e w8 ⟨rfl, hf⟩
  have HF := Lib.hid (HF.out.trans hf); clear hf
  go_wp2_with fail
  refine ⟨⟨⟨_, (by exact HF.out)⟩, rfl⟩, ?_⟩
  refine wpSegs_soft ?_
  repeat (first | (refine wpQuiet_load_mid 31 _ _ 0 cs _ rfl rfl rfl (rangeAt_after hmd (by simp)) Try.underlying31 rfl (by rw [hsz]; kernel_rfl) ?_; simp only [Act.put, List.setIfInBounds_toArray, List.set_cons_zero, List.set_cons_succ]) | go_big_quiet_step (fail) | quiet_step (fail))
  refine wpQuiet_nil ?_
  refine wpSegs_keep ?_
  go_wp2_with fail
  refine (HH.out _ _ (hBV.fr HF.out (by simp))).mono ?_
  rintro e w8 ⟨rfl, hf⟩
  have HF := Lib.hid (HF.out.trans hf); clear hf
  go_wp2_with fail
  refine ⟨⟨⟨_, (by exact HF.out)⟩, rfl⟩, ?_⟩
  refine wpSegs_soft ?_
  repeat (first | (refine wpQuiet_load_mid 31 _ _ 0 cs _ rfl rfl rfl (rangeAt_after hmd (by simp)) Try.underlying31 rfl (by rw [hsz]; kernel_rfl) ?_; simp only [Act.put, List.setIfInBounds_toArray, List.set_cons_zero, List.set_cons_succ]) | go_big_quiet_step (fail) | quiet_step (fail))
  refine wpQuiet_nil ?_
  refine wpSegs_keep ?_
  go_wp2_with fail
  refine (P4.out _).mono ?_
  rintro e w8 ⟨rfl, hf⟩
  have HF := Lib.hid (HF.out.trans hf); clear hf
  go_wp2_with fail
  refine ⟨⟨⟨_, (by exact HF.out)⟩, rfl⟩, ?_⟩
  repeat ((first | refine wpSegs_soft ?_ | refine wpSegs_pure ?_ | refine wpSegs_here ?_); (repeat (first | go_big_quiet_step (fail) | quiet_step (fail))); refine wpQuiet_nil ?_)
  refine wpSegs_done ?_
  go_wp2_with fail
  go_ret
  exact ⟨rfl, HSD.out.fr.trans HF.out⟩
end Go.Proofs.Ytccioehckfdjdaa
