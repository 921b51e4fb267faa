/- The walk of CellSwaps. -/
import Derived.Test.YtbgmcekbldponaaClaw
set_option linter.unusedSimpArgs false
set_option linter.unusedVariables false
namespace Go.Proofs.Ytbgmcekbldponaa
open Go.RowKit Go.Tum Go.Tum.C

/-- One cell, and steps. -/
def one (c : Int × Int) (st : List Int) (tr : List Ev) : M := ⟨[c], st, tr⟩
theorem one_put (c : Int × Int) : M.put (newM 1) 0 c = one c [0, 0, 0, 0, 0, 0, 0, 0] [] := rfl
theorem one_err (c : Int × Int) (st : List Int) (tr : List Ev) (who : Nat) (hw : who < 8) (o1 o2 n1 n2 : Int) : err (one c st tr).cells.length who ⟨2, 0, o1, o2, n1, n2⟩ = 0 := by
  unfold err one
  rw [if_neg (by omega), if_neg (by dsimp only; omega), if_neg (by simp)]
theorem one_yes (c : Int × Int) (st : List Int) (tr : List Ev) (who : Nat) (hw : who < 8) (n1 n2 : Int) :
    (one c st tr).told who ⟨2, 0, c.1, c.2, n1, n2⟩ = ⟨c.1, c.2, true⟩ ∧ ∃ st' tr', (one c st tr).step who ⟨2, 0, c.1, c.2, n1, n2⟩ = one (n1, n2) st' tr' ∧ tr'.length = tr.length + 1 := by
  have e := one_err c st tr who hw c.1 c.2 n1 n2
  unfold M.told M.step
  rw [if_pos e, if_pos e]
  exact ⟨by simp [outOf, M.at, one], _, _, by simp only [one, becomes, M.at]; simp; exact ⟨rfl, rfl⟩, by simp [one]⟩
theorem one_no (c : Int × Int) (st : List Int) (tr : List Ev) (who : Nat) (hw : who < 8) (o1 o2 n1 n2 : Int) (hn : ¬ (c.1 = o1 ∧ c.2 = o2)) :
    (one c st tr).told who ⟨2, 0, o1, o2, n1, n2⟩ = ⟨c.1, c.2, false⟩ ∧ ∃ st' tr', (one c st tr).step who ⟨2, 0, o1, o2, n1, n2⟩ = one c st' tr' ∧ tr'.length = tr.length + 1 := by
  have e := one_err c st tr who hw o1 o2 n1 n2
  have hc : ¬ c = (o1, o2) := fun h => hn (by rw [h]; exact ⟨rfl, rfl⟩)
  unfold M.told M.step
  rw [if_pos e, if_pos e]
  exact ⟨by simp [outOf, M.at, one, hc], _, _, by simp only [one, becomes, M.at]; simp [hc]; exact ⟨rfl, rfl⟩, by simp [one]⟩

set_option maxHeartbeats 8000000 in
set_option maxRecDepth 100000 in
theorem swaps_eq_eq (c1 c2 b1 b2 : Int)  (w : World) :
    Calls Try.prog 4 #[.agg #[.int .u64 c1, .int .u64 c2], .agg #[.int .u64 c1, .int .u64 c2], .agg #[.int .u64 b1, .int .u64 b2], .agg #[.int .u64 b1, .int .u64 b2]] w fun e w' => e = .returned (.bool true) ∧ Fr [] w w' := by
  go_enter Try.func4, Try.ntmps4
  go_wp2_with fail
  refine (alive_any _).mono ?_
  rintro e w1 ⟨rfl, hf⟩
  have hS := ((((((Sep.nil (Fr.refl [] w)).new 35 [.int .u64 c1, .int .u64 c2]).new 35 [.int .u64 c1, .int .u64 c2]).new 35 [.int .u64 b1, .int .u64 b2]).new 35 [.int .u64 b1, .int .u64 b2])).fr0 hf
  simp only [World.size_alloc] at hS
  have p0 := (hS.blk 0 rfl).cell 0
  have p1 := (hS.blk 0 rfl).cell 1
  have q0 := (hS.blk 1 rfl).cell 0
  have q1 := (hS.blk 1 rfl).cell 1
  have s0 := (hS.blk 2 rfl).cell 0
  have s1 := (hS.blk 2 rfl).cell 1
  have t0 := (hS.blk 3 rfl).cell 0
  have t1 := (hS.blk 3 rfl).cell 1
  simp only [List.getElem?_cons_zero, List.getElem?_cons_succ] at p0 p1 q0 q1 s0 s1 t0 t1
  have pl := (hS.blk 0 rfl).lt
  have ql := (hS.blk 1 rfl).lt
  have sl := (hS.blk 2 rfl).lt
  have tl := (hS.blk 3 rfl).lt
  have HS := Lib.hid hS
  clear hS hf
  go_wp2_with fail
  refine (new_any w1 1 (by decide)).mono ?_
  rintro e w2 ⟨b, rfl, hF⟩
  have hS := HS.out.fresh hF
  clear hF HS p0 p1 q0 q1 s0 s1 t0 t1 pl ql sl tl
  have p0 := (hS.blk 1 rfl).cell 0
  have p1 := (hS.blk 1 rfl).cell 1
  have q0 := (hS.blk 2 rfl).cell 0
  have q1 := (hS.blk 2 rfl).cell 1
  have s0 := (hS.blk 3 rfl).cell 0
  have s1 := (hS.blk 3 rfl).cell 1
  have t0 := (hS.blk 4 rfl).cell 0
  have t1 := (hS.blk 4 rfl).cell 1
  simp only [List.getElem?_cons_zero, List.getElem?_cons_succ] at p0 p1 q0 q1 s0 s1 t0 t1
  have pl := (hS.blk 1 rfl).lt
  have ql := (hS.blk 2 rfl).lt
  have sl := (hS.blk 3 rfl).lt
  have tl := (hS.blk 4 rfl).lt
  have HS := Lib.hid hS
  clear hS
  go_wp2_with fail
  refine (set_any HS.out 0 (c1, c2)).mono ?_
  rintro e w3 ⟨rfl, hS⟩
  rw [one_put] at hS
  clear HS p0 p1 q0 q1 s0 s1 t0 t1 pl ql sl tl
  have p0 := (hS.blk 1 rfl).cell 0
  have p1 := (hS.blk 1 rfl).cell 1
  have q0 := (hS.blk 2 rfl).cell 0
  have q1 := (hS.blk 2 rfl).cell 1
  have s0 := (hS.blk 3 rfl).cell 0
  have s1 := (hS.blk 3 rfl).cell 1
  have t0 := (hS.blk 4 rfl).cell 0
  have t1 := (hS.blk 4 rfl).cell 1
  simp only [List.getElem?_cons_zero, List.getElem?_cons_succ] at p0 p1 q0 q1 s0 s1 t0 t1
  have pl := (hS.blk 1 rfl).lt
  have ql := (hS.blk 2 rfl).lt
  have sl := (hS.blk 3 rfl).lt
  have tl := (hS.blk 4 rfl).lt
  have HS := Lib.hid hS
  clear hS
  obtain ⟨f1, st1, tr1, f2, f3⟩ := one_yes (c1, c2) [0, 0, 0, 0, 0, 0, 0, 0] [] 0 (by decide) c1 c2
  have F1 := Lib.hid f1; have F2 := Lib.hid f2
  have f4 : tr1.length = 1 := f3
  have F4 := Lib.hid f4
  clear f1 f2 f3 f4
  go_wp2_with fail
  refine (do_to HS.out (by simp [one]) ((0 : Nat) : Int) ⟨2, 0, c1, c2, c1, c2⟩ F1.out (one_err _ _ _ 0 (by decide) _ _ _ _) F2.out).mono ?_
  rintro e w4 ⟨rfl, hS⟩
  unfold outV
  have hS := hS.new 41 [.int .u64 c1, .int .u64 c2, .bool true]
  clear HS p0 p1 q0 q1 s0 s1 t0 t1 pl ql sl tl
  have p0 := (hS.blk 2 rfl).cell 0
  have p1 := (hS.blk 2 rfl).cell 1
  have q0 := (hS.blk 3 rfl).cell 0
  have q1 := (hS.blk 3 rfl).cell 1
  have s0 := (hS.blk 4 rfl).cell 0
  have s1 := (hS.blk 4 rfl).cell 1
  have t0 := (hS.blk 5 rfl).cell 0
  have t1 := (hS.blk 5 rfl).cell 1
  simp only [List.getElem?_cons_zero, List.getElem?_cons_succ] at p0 p1 q0 q1 s0 s1 t0 t1
  have pl := (hS.blk 2 rfl).lt
  have ql := (hS.blk 3 rfl).lt
  have sl := (hS.blk 4 rfl).lt
  have tl := (hS.blk 5 rfl).lt
  have HS := Lib.hid hS
  clear hS F1 F2
  obtain ⟨g1, st2, tr2, g2, g3⟩ := one_yes (c1, c2) st1 tr1 1 (by decide) b1 b2
  have G1 := Lib.hid g1; have G2 := Lib.hid g2
  have g4 : tr2.length = 2 := by rw [g3, F4.out]
  have G4 := Lib.hid g4
  clear g1 g2 g3 g4
  go_wp2_with fail
  refine ((HS.out.call 1 rfl (fun R hR => do_to hR (by show tr1.length ≤ 100000; rw [F4.out]; decide) ((1 : Nat) : Int) ⟨2, 0, c1, c2, b1, b2⟩ G1.out (one_err _ _ _ 1 (by decide) _ _ _ _) G2.out))).mono ?_
  rintro e w5 ⟨rfl, hS⟩
  unfold outV
  have hS := hS.new 41 [.int .u64 c1, .int .u64 c2, .bool true]
  clear HS p0 p1 q0 q1 s0 s1 t0 t1 pl ql sl tl
  have p0 := (hS.blk 3 rfl).cell 0
  have p1 := (hS.blk 3 rfl).cell 1
  have q0 := (hS.blk 4 rfl).cell 0
  have q1 := (hS.blk 4 rfl).cell 1
  have s0 := (hS.blk 5 rfl).cell 0
  have s1 := (hS.blk 5 rfl).cell 1
  have t0 := (hS.blk 6 rfl).cell 0
  have t1 := (hS.blk 6 rfl).cell 1
  simp only [List.getElem?_cons_zero, List.getElem?_cons_succ] at p0 p1 q0 q1 s0 s1 t0 t1
  have pl := (hS.blk 3 rfl).lt
  have ql := (hS.blk 4 rfl).lt
  have sl := (hS.blk 5 rfl).lt
  have tl := (hS.blk 6 rfl).lt
  have u0 := (hS.blk 0 rfl).cell 0
  have u1 := (hS.blk 0 rfl).cell 1
  have u2 := (hS.blk 0 rfl).cell 2
  have v0 := (hS.blk 1 rfl).cell 0
  have v1 := (hS.blk 1 rfl).cell 1
  have v2 := (hS.blk 1 rfl).cell 2
  simp only [List.getElem?_cons_zero, List.getElem?_cons_succ] at u0 u1 u2 v0 v1 v2
  have HS := Lib.hid hS
  clear hS G1 G2
  go_wp2_with fail
  refine wp_region_fr [(1, [0, 1, 2, 3, 4, 5, 6, 7, 8, 9, 10, 11, 12, 13, 14, 15, 16, 17, 18, 19, 20, 21, 22, 23, 24, 25, 26, 27, 28, 29, 30])] [] (by kernel_rfl) (by kernel_rfl) ?_
  simp only [theOps, nthOp, List.map_cons, List.map_nil, Array.getD_eq_getD_getElem?, List.getElem?_toArray, List.getElem?_cons_succ, List.getElem?_cons_zero, Option.getD_some]
  repeat ((first | refine wpSegs_soft ?_ | refine wpSegs_pure ?_); (repeat (first | go_big_quiet_step (fail) | quiet_step (fail))); refine wpQuiet_nil ?_)
  refine wpSegs_done ?_
  go_wp2_with fail
  clear u0 u1 u2 v0 v1 v2
  obtain ⟨_, vc, vt, hM⟩ := sep_mem HS.out.drew 2 rfl
  refine (peek_any _ b vc vt _ 0 hM).mono ?_
  rintro e w6 ⟨rfl, hf⟩
  rw [show peek (one (b1, b2) st2 tr2) 0 = ((b1, b2), true) from rfl]
  clear hM
  have hS := (HS.out.drew.fr0 hf).new 35 [.int .u64 b1, .int .u64 b2]
  clear HS p0 p1 q0 q1 s0 s1 t0 t1 pl ql sl tl hf
  have p0 := (hS.blk 4 rfl).cell 0
  have p1 := (hS.blk 4 rfl).cell 1
  have q0 := (hS.blk 5 rfl).cell 0
  have q1 := (hS.blk 5 rfl).cell 1
  have s0 := (hS.blk 6 rfl).cell 0
  have s1 := (hS.blk 6 rfl).cell 1
  have t0 := (hS.blk 7 rfl).cell 0
  have t1 := (hS.blk 7 rfl).cell 1
  simp only [List.getElem?_cons_zero, List.getElem?_cons_succ] at p0 p1 q0 q1 s0 s1 t0 t1
  have pl := (hS.blk 4 rfl).lt
  have ql := (hS.blk 5 rfl).lt
  have sl := (hS.blk 6 rfl).lt
  have tl := (hS.blk 7 rfl).lt
  have HS := Lib.hid hS
  clear hS
  obtain ⟨g1, st3, tr3, g2, g3⟩ := one_yes (b1, b2) st2 tr2 2 (by decide) c1 c2
  have G1 := Lib.hid g1; have G2 := Lib.hid g2
  clear g1 g2 g3
  go_wp2_with fail
  refine ((HS.out.call 3 rfl (fun R hR => do_to hR (by show tr2.length ≤ 100000; rw [G4.out]; decide) ((2 : Nat) : Int) ⟨2, 0, b1, b2, c1, c2⟩ G1.out (one_err _ _ _ 2 (by decide) _ _ _ _) G2.out))).mono ?_
  rintro e w7 ⟨rfl, hS⟩
  unfold outV
  have hS := hS.new 41 [.int .u64 b1, .int .u64 b2, .bool true]
  clear HS p0 p1 q0 q1 s0 s1 t0 t1 pl ql sl tl G1 G2
  have p0 := (hS.blk 5 rfl).cell 0
  have p1 := (hS.blk 5 rfl).cell 1
  have q0 := (hS.blk 6 rfl).cell 0
  have q1 := (hS.blk 6 rfl).cell 1
  have s0 := (hS.blk 7 rfl).cell 0
  have s1 := (hS.blk 7 rfl).cell 1
  have t0 := (hS.blk 8 rfl).cell 0
  have t1 := (hS.blk 8 rfl).cell 1
  simp only [List.getElem?_cons_zero, List.getElem?_cons_succ] at p0 p1 q0 q1 s0 s1 t0 t1
  have pl := (hS.blk 5 rfl).lt
  have ql := (hS.blk 6 rfl).lt
  have sl := (hS.blk 7 rfl).lt
  have tl := (hS.blk 8 rfl).lt
  have HS := Lib.hid hS
  clear hS
  go_wp2_with fail
  obtain ⟨_, vc, vt, hM⟩ := sep_mem HS.out 4 rfl
  refine (peek_any _ b vc vt _ 0 hM).mono ?_
  rintro e w8 ⟨rfl, hf⟩
  rw [show peek (one (c1, c2) st3 tr3) 0 = ((c1, c2), true) from rfl]
  clear hM
  have hS := (HS.out.fr0 hf).new 35 [.int .u64 c1, .int .u64 c2]
  clear HS p0 p1 q0 q1 s0 s1 t0 t1 pl ql sl tl hf
  have p0 := (hS.blk 6 rfl).cell 0
  have p1 := (hS.blk 6 rfl).cell 1
  have q0 := (hS.blk 7 rfl).cell 0
  have q1 := (hS.blk 7 rfl).cell 1
  have s0 := (hS.blk 8 rfl).cell 0
  have s1 := (hS.blk 8 rfl).cell 1
  have t0 := (hS.blk 9 rfl).cell 0
  have t1 := (hS.blk 9 rfl).cell 1
  simp only [List.getElem?_cons_zero, List.getElem?_cons_succ] at p0 p1 q0 q1 s0 s1 t0 t1
  have pl := (hS.blk 6 rfl).lt
  have ql := (hS.blk 7 rfl).lt
  have sl := (hS.blk 8 rfl).lt
  have tl := (hS.blk 9 rfl).lt
  have u0 := (hS.blk 1 rfl).cell 0
  have u1 := (hS.blk 1 rfl).cell 1
  have u2 := (hS.blk 1 rfl).cell 2
  have v0 := (hS.blk 2 rfl).cell 0
  have v1 := (hS.blk 2 rfl).cell 1
  have n0 := (hS.blk 0 rfl).cell 0
  have n1 := (hS.blk 0 rfl).cell 1
  simp only [List.getElem?_cons_zero, List.getElem?_cons_succ] at u0 u1 u2 v0 v1 n0 n1
  have HF := Lib.hid hS.fr
  clear hS
  go_wp2_with fail
  refine wp_region_fr [(1, [0, 1, 2, 3, 4, 5, 6, 7, 8, 9, 10, 11, 12, 13, 14, 15, 16, 17, 18, 19, 20, 21, 22, 23, 24, 25, 26, 27, 28, 29, 30, 31, 32, 33, 34, 35])] [] (by kernel_rfl) (by kernel_rfl) ?_
  simp only [theOps, nthOp, List.map_cons, List.map_nil, Array.getD_eq_getD_getElem?, List.getElem?_toArray, List.getElem?_cons_succ, List.getElem?_cons_zero, Option.getD_some]
  repeat ((first | refine wpSegs_soft ?_ | refine wpSegs_pure ?_); (repeat (first | go_big_quiet_step (fail) | quiet_step (fail))); refine wpQuiet_nil ?_)
  refine wpSegs_done ?_
  go_wp2_with fail
  go_ret
  exact ⟨rfl, HF.out.drew⟩
set_option maxHeartbeats 8000000 in
set_option maxRecDepth 100000 in
theorem swaps_eq_n1 (c1 c2 b1 b2 o1 o2 : Int) (h2 : b1 ≠ o1) (w : World) :
    Calls Try.prog 4 #[.agg #[.int .u64 c1, .int .u64 c2], .agg #[.int .u64 c1, .int .u64 c2], .agg #[.int .u64 b1, .int .u64 b2], .agg #[.int .u64 o1, .int .u64 o2]] w fun e w' => e = .returned (.bool true) ∧ Fr [] w w' := by
  have hv2 : (b1 == o1) = false := by simpa using h2
  go_enter Try.func4, Try.ntmps4
  go_wp2_with fail
  refine (alive_any _).mono ?_
  rintro e w1 ⟨rfl, hf⟩
  have hS := ((((((Sep.nil (Fr.refl [] w)).new 35 [.int .u64 c1, .int .u64 c2]).new 35 [.int .u64 c1, .int .u64 c2]).new 35 [.int .u64 b1, .int .u64 b2]).new 35 [.int .u64 o1, .int .u64 o2])).fr0 hf
  simp only [World.size_alloc] at hS
  have p0 := (hS.blk 0 rfl).cell 0
  have p1 := (hS.blk 0 rfl).cell 1
  have q0 := (hS.blk 1 rfl).cell 0
  have q1 := (hS.blk 1 rfl).cell 1
  have s0 := (hS.blk 2 rfl).cell 0
  have s1 := (hS.blk 2 rfl).cell 1
  have t0 := (hS.blk 3 rfl).cell 0
  have t1 := (hS.blk 3 rfl).cell 1
  simp only [List.getElem?_cons_zero, List.getElem?_cons_succ] at p0 p1 q0 q1 s0 s1 t0 t1
  have pl := (hS.blk 0 rfl).lt
  have ql := (hS.blk 1 rfl).lt
  have sl := (hS.blk 2 rfl).lt
  have tl := (hS.blk 3 rfl).lt
  have HS := Lib.hid hS
  clear hS hf
  go_wp2_with fail
  refine (new_any w1 1 (by decide)).mono ?_
  rintro e w2 ⟨b, rfl, hF⟩
  have hS := HS.out.fresh hF
  clear hF HS p0 p1 q0 q1 s0 s1 t0 t1 pl ql sl tl
  have p0 := (hS.blk 1 rfl).cell 0
  have p1 := (hS.blk 1 rfl).cell 1
  have q0 := (hS.blk 2 rfl).cell 0
  have q1 := (hS.blk 2 rfl).cell 1
  have s0 := (hS.blk 3 rfl).cell 0
  have s1 := (hS.blk 3 rfl).cell 1
  have t0 := (hS.blk 4 rfl).cell 0
  have t1 := (hS.blk 4 rfl).cell 1
  simp only [List.getElem?_cons_zero, List.getElem?_cons_succ] at p0 p1 q0 q1 s0 s1 t0 t1
  have pl := (hS.blk 1 rfl).lt
  have ql := (hS.blk 2 rfl).lt
  have sl := (hS.blk 3 rfl).lt
  have tl := (hS.blk 4 rfl).lt
  have HS := Lib.hid hS
  clear hS
  go_wp2_with fail
  refine (set_any HS.out 0 (c1, c2)).mono ?_
  rintro e w3 ⟨rfl, hS⟩
  rw [one_put] at hS
  clear HS p0 p1 q0 q1 s0 s1 t0 t1 pl ql sl tl
  have p0 := (hS.blk 1 rfl).cell 0
  have p1 := (hS.blk 1 rfl).cell 1
  have q0 := (hS.blk 2 rfl).cell 0
  have q1 := (hS.blk 2 rfl).cell 1
  have s0 := (hS.blk 3 rfl).cell 0
  have s1 := (hS.blk 3 rfl).cell 1
  have t0 := (hS.blk 4 rfl).cell 0
  have t1 := (hS.blk 4 rfl).cell 1
  simp only [List.getElem?_cons_zero, List.getElem?_cons_succ] at p0 p1 q0 q1 s0 s1 t0 t1
  have pl := (hS.blk 1 rfl).lt
  have ql := (hS.blk 2 rfl).lt
  have sl := (hS.blk 3 rfl).lt
  have tl := (hS.blk 4 rfl).lt
  have HS := Lib.hid hS
  clear hS
  obtain ⟨f1, st1, tr1, f2, f3⟩ := one_yes (c1, c2) [0, 0, 0, 0, 0, 0, 0, 0] [] 0 (by decide) c1 c2
  have F1 := Lib.hid f1; have F2 := Lib.hid f2
  have f4 : tr1.length = 1 := f3
  have F4 := Lib.hid f4
  clear f1 f2 f3 f4
  go_wp2_with fail
  refine (do_to HS.out (by simp [one]) ((0 : Nat) : Int) ⟨2, 0, c1, c2, c1, c2⟩ F1.out (one_err _ _ _ 0 (by decide) _ _ _ _) F2.out).mono ?_
  rintro e w4 ⟨rfl, hS⟩
  unfold outV
  have hS := hS.new 41 [.int .u64 c1, .int .u64 c2, .bool true]
  clear HS p0 p1 q0 q1 s0 s1 t0 t1 pl ql sl tl
  have p0 := (hS.blk 2 rfl).cell 0
  have p1 := (hS.blk 2 rfl).cell 1
  have q0 := (hS.blk 3 rfl).cell 0
  have q1 := (hS.blk 3 rfl).cell 1
  have s0 := (hS.blk 4 rfl).cell 0
  have s1 := (hS.blk 4 rfl).cell 1
  have t0 := (hS.blk 5 rfl).cell 0
  have t1 := (hS.blk 5 rfl).cell 1
  simp only [List.getElem?_cons_zero, List.getElem?_cons_succ] at p0 p1 q0 q1 s0 s1 t0 t1
  have pl := (hS.blk 2 rfl).lt
  have ql := (hS.blk 3 rfl).lt
  have sl := (hS.blk 4 rfl).lt
  have tl := (hS.blk 5 rfl).lt
  have HS := Lib.hid hS
  clear hS F1 F2
  obtain ⟨g1, st2, tr2, g2, g3⟩ := one_yes (c1, c2) st1 tr1 1 (by decide) b1 b2
  have G1 := Lib.hid g1; have G2 := Lib.hid g2
  have g4 : tr2.length = 2 := by rw [g3, F4.out]
  have G4 := Lib.hid g4
  clear g1 g2 g3 g4
  go_wp2_with fail
  refine ((HS.out.call 1 rfl (fun R hR => do_to hR (by show tr1.length ≤ 100000; rw [F4.out]; decide) ((1 : Nat) : Int) ⟨2, 0, c1, c2, b1, b2⟩ G1.out (one_err _ _ _ 1 (by decide) _ _ _ _) G2.out))).mono ?_
  rintro e w5 ⟨rfl, hS⟩
  unfold outV
  have hS := hS.new 41 [.int .u64 c1, .int .u64 c2, .bool true]
  clear HS p0 p1 q0 q1 s0 s1 t0 t1 pl ql sl tl
  have p0 := (hS.blk 3 rfl).cell 0
  have p1 := (hS.blk 3 rfl).cell 1
  have q0 := (hS.blk 4 rfl).cell 0
  have q1 := (hS.blk 4 rfl).cell 1
  have s0 := (hS.blk 5 rfl).cell 0
  have s1 := (hS.blk 5 rfl).cell 1
  have t0 := (hS.blk 6 rfl).cell 0
  have t1 := (hS.blk 6 rfl).cell 1
  simp only [List.getElem?_cons_zero, List.getElem?_cons_succ] at p0 p1 q0 q1 s0 s1 t0 t1
  have pl := (hS.blk 3 rfl).lt
  have ql := (hS.blk 4 rfl).lt
  have sl := (hS.blk 5 rfl).lt
  have tl := (hS.blk 6 rfl).lt
  have u0 := (hS.blk 0 rfl).cell 0
  have u1 := (hS.blk 0 rfl).cell 1
  have u2 := (hS.blk 0 rfl).cell 2
  have v0 := (hS.blk 1 rfl).cell 0
  have v1 := (hS.blk 1 rfl).cell 1
  have v2 := (hS.blk 1 rfl).cell 2
  simp only [List.getElem?_cons_zero, List.getElem?_cons_succ] at u0 u1 u2 v0 v1 v2
  have HS := Lib.hid hS
  clear hS G1 G2
  go_wp2_with fail
  refine wp_region_fr [(1, [0, 1, 2, 3, 4, 5, 6, 7, 8, 9, 10, 11, 12, 13, 14, 15, 16, 17, 18, 19, 20, 21, 22, 23, 24, 25, 26, 27, 28, 29, 30])] [] (by kernel_rfl) (by kernel_rfl) ?_
  simp only [theOps, nthOp, List.map_cons, List.map_nil, Array.getD_eq_getD_getElem?, List.getElem?_toArray, List.getElem?_cons_succ, List.getElem?_cons_zero, Option.getD_some]
  repeat ((first | refine wpSegs_soft ?_ | refine wpSegs_pure ?_); (repeat (first | go_big_quiet_step (fail) | quiet_step (fail))); refine wpQuiet_nil ?_)
  refine wpSegs_done ?_
  go_wp2_with fail
  clear u0 u1 u2 v0 v1 v2
  obtain ⟨_, vc, vt, hM⟩ := sep_mem HS.out.drew 2 rfl
  refine (peek_any _ b vc vt _ 0 hM).mono ?_
  rintro e w6 ⟨rfl, hf⟩
  rw [show peek (one (b1, b2) st2 tr2) 0 = ((b1, b2), true) from rfl]
  clear hM
  have hS := (HS.out.drew.fr0 hf).new 35 [.int .u64 b1, .int .u64 b2]
  clear HS p0 p1 q0 q1 s0 s1 t0 t1 pl ql sl tl hf
  have p0 := (hS.blk 4 rfl).cell 0
  have p1 := (hS.blk 4 rfl).cell 1
  have q0 := (hS.blk 5 rfl).cell 0
  have q1 := (hS.blk 5 rfl).cell 1
  have s0 := (hS.blk 6 rfl).cell 0
  have s1 := (hS.blk 6 rfl).cell 1
  have t0 := (hS.blk 7 rfl).cell 0
  have t1 := (hS.blk 7 rfl).cell 1
  simp only [List.getElem?_cons_zero, List.getElem?_cons_succ] at p0 p1 q0 q1 s0 s1 t0 t1
  have pl := (hS.blk 4 rfl).lt
  have ql := (hS.blk 5 rfl).lt
  have sl := (hS.blk 6 rfl).lt
  have tl := (hS.blk 7 rfl).lt
  have HS := Lib.hid hS
  clear hS
  obtain ⟨g1, st3, tr3, g2, g3⟩ := one_no (b1, b2) st2 tr2 2 (by decide) o1 o2 c1 c2 (by rintro ⟨e, _⟩; exact h2 e)
  have G1 := Lib.hid g1; have G2 := Lib.hid g2
  clear g1 g2 g3
  go_wp2_with fail
  refine ((HS.out.call 3 rfl (fun R hR => do_to hR (by show tr2.length ≤ 100000; rw [G4.out]; decide) ((2 : Nat) : Int) ⟨2, 0, o1, o2, c1, c2⟩ G1.out (one_err _ _ _ 2 (by decide) _ _ _ _) G2.out))).mono ?_
  rintro e w7 ⟨rfl, hS⟩
  unfold outV
  have hS := hS.new 41 [.int .u64 b1, .int .u64 b2, .bool false]
  clear HS p0 p1 q0 q1 s0 s1 t0 t1 pl ql sl tl G1 G2
  have p0 := (hS.blk 5 rfl).cell 0
  have p1 := (hS.blk 5 rfl).cell 1
  have q0 := (hS.blk 6 rfl).cell 0
  have q1 := (hS.blk 6 rfl).cell 1
  have s0 := (hS.blk 7 rfl).cell 0
  have s1 := (hS.blk 7 rfl).cell 1
  have t0 := (hS.blk 8 rfl).cell 0
  have t1 := (hS.blk 8 rfl).cell 1
  simp only [List.getElem?_cons_zero, List.getElem?_cons_succ] at p0 p1 q0 q1 s0 s1 t0 t1
  have pl := (hS.blk 5 rfl).lt
  have ql := (hS.blk 6 rfl).lt
  have sl := (hS.blk 7 rfl).lt
  have tl := (hS.blk 8 rfl).lt
  have HS := Lib.hid hS
  clear hS
  go_wp2_with fail
  obtain ⟨_, vc, vt, hM⟩ := sep_mem HS.out 4 rfl
  refine (peek_any _ b vc vt _ 0 hM).mono ?_
  rintro e w8 ⟨rfl, hf⟩
  rw [show peek (one (b1, b2) st3 tr3) 0 = ((b1, b2), true) from rfl]
  clear hM
  have hS := (HS.out.fr0 hf).new 35 [.int .u64 b1, .int .u64 b2]
  clear HS p0 p1 q0 q1 s0 s1 t0 t1 pl ql sl tl hf
  have p0 := (hS.blk 6 rfl).cell 0
  have p1 := (hS.blk 6 rfl).cell 1
  have q0 := (hS.blk 7 rfl).cell 0
  have q1 := (hS.blk 7 rfl).cell 1
  have s0 := (hS.blk 8 rfl).cell 0
  have s1 := (hS.blk 8 rfl).cell 1
  have t0 := (hS.blk 9 rfl).cell 0
  have t1 := (hS.blk 9 rfl).cell 1
  simp only [List.getElem?_cons_zero, List.getElem?_cons_succ] at p0 p1 q0 q1 s0 s1 t0 t1
  have pl := (hS.blk 6 rfl).lt
  have ql := (hS.blk 7 rfl).lt
  have sl := (hS.blk 8 rfl).lt
  have tl := (hS.blk 9 rfl).lt
  have u0 := (hS.blk 1 rfl).cell 0
  have u1 := (hS.blk 1 rfl).cell 1
  have u2 := (hS.blk 1 rfl).cell 2
  have v0 := (hS.blk 2 rfl).cell 0
  have v1 := (hS.blk 2 rfl).cell 1
  have n0 := (hS.blk 0 rfl).cell 0
  have n1 := (hS.blk 0 rfl).cell 1
  simp only [List.getElem?_cons_zero, List.getElem?_cons_succ] at u0 u1 u2 v0 v1 n0 n1
  have HF := Lib.hid hS.fr
  clear hS
  go_wp2_with fail
  refine wp_region_fr [(1, [0, 1, 2, 3, 4, 5, 6, 7, 8, 9, 10, 11, 12, 13, 14, 15, 16, 17, 18, 19, 20, 21, 22, 23, 24, 25, 26, 27, 28, 29, 30, 31, 32, 33, 34, 35])] [] (by kernel_rfl) (by kernel_rfl) ?_
  simp only [theOps, nthOp, List.map_cons, List.map_nil, Array.getD_eq_getD_getElem?, List.getElem?_toArray, List.getElem?_cons_succ, List.getElem?_cons_zero, Option.getD_some]
  repeat ((first | refine wpSegs_soft ?_ | refine wpSegs_pure ?_); (repeat (first | go_big_quiet_step (fail) | quiet_step (fail))); refine wpQuiet_nil ?_)
  refine wpSegs_done ?_
  go_wp2_with fail
  go_ret
  exact ⟨rfl, HF.out.drew⟩
set_option maxHeartbeats 8000000 in
set_option maxRecDepth 100000 in
theorem swaps_eq_n2 (c1 c2 b1 b2 o2 : Int) (h2 : b2 ≠ o2) (w : World) :
    Calls Try.prog 4 #[.agg #[.int .u64 c1, .int .u64 c2], .agg #[.int .u64 c1, .int .u64 c2], .agg #[.int .u64 b1, .int .u64 b2], .agg #[.int .u64 b1, .int .u64 o2]] w fun e w' => e = .returned (.bool true) ∧ Fr [] w w' := by
  have hv2 : (b2 == o2) = false := by simpa using h2
  go_enter Try.func4, Try.ntmps4
  go_wp2_with fail
  refine (alive_any _).mono ?_
  rintro e w1 ⟨rfl, hf⟩
  have hS := ((((((Sep.nil (Fr.refl [] w)).new 35 [.int .u64 c1, .int .u64 c2]).new 35 [.int .u64 c1, .int .u64 c2]).new 35 [.int .u64 b1, .int .u64 b2]).new 35 [.int .u64 b1, .int .u64 o2])).fr0 hf
  simp only [World.size_alloc] at hS
  have p0 := (hS.blk 0 rfl).cell 0
  have p1 := (hS.blk 0 rfl).cell 1
  have q0 := (hS.blk 1 rfl).cell 0
  have q1 := (hS.blk 1 rfl).cell 1
  have s0 := (hS.blk 2 rfl).cell 0
  have s1 := (hS.blk 2 rfl).cell 1
  have t0 := (hS.blk 3 rfl).cell 0
  have t1 := (hS.blk 3 rfl).cell 1
  simp only [List.getElem?_cons_zero, List.getElem?_cons_succ] at p0 p1 q0 q1 s0 s1 t0 t1
  have pl := (hS.blk 0 rfl).lt
  have ql := (hS.blk 1 rfl).lt
  have sl := (hS.blk 2 rfl).lt
  have tl := (hS.blk 3 rfl).lt
  have HS := Lib.hid hS
  clear hS hf
  go_wp2_with fail
  refine (new_any w1 1 (by decide)).mono ?_
  rintro e w2 ⟨b, rfl, hF⟩
  have hS := HS.out.fresh hF
  clear hF HS p0 p1 q0 q1 s0 s1 t0 t1 pl ql sl tl
  have p0 := (hS.blk 1 rfl).cell 0
  have p1 := (hS.blk 1 rfl).cell 1
  have q0 := (hS.blk 2 rfl).cell 0
  have q1 := (hS.blk 2 rfl).cell 1
  have s0 := (hS.blk 3 rfl).cell 0
  have s1 := (hS.blk 3 rfl).cell 1
  have t0 := (hS.blk 4 rfl).cell 0
  have t1 := (hS.blk 4 rfl).cell 1
  simp only [List.getElem?_cons_zero, List.getElem?_cons_succ] at p0 p1 q0 q1 s0 s1 t0 t1
  have pl := (hS.blk 1 rfl).lt
  have ql := (hS.blk 2 rfl).lt
  have sl := (hS.blk 3 rfl).lt
  have tl := (hS.blk 4 rfl).lt
  have HS := Lib.hid hS
  clear hS
  go_wp2_with fail
  refine (set_any HS.out 0 (c1, c2)).mono ?_
  rintro e w3 ⟨rfl, hS⟩
  rw [one_put] at hS
  clear HS p0 p1 q0 q1 s0 s1 t0 t1 pl ql sl tl
  have p0 := (hS.blk 1 rfl).cell 0
  have p1 := (hS.blk 1 rfl).cell 1
  have q0 := (hS.blk 2 rfl).cell 0
  have q1 := (hS.blk 2 rfl).cell 1
  have s0 := (hS.blk 3 rfl).cell 0
  have s1 := (hS.blk 3 rfl).cell 1
  have t0 := (hS.blk 4 rfl).cell 0
  have t1 := (hS.blk 4 rfl).cell 1
  simp only [List.getElem?_cons_zero, List.getElem?_cons_succ] at p0 p1 q0 q1 s0 s1 t0 t1
  have pl := (hS.blk 1 rfl).lt
  have ql := (hS.blk 2 rfl).lt
  have sl := (hS.blk 3 rfl).lt
  have tl := (hS.blk 4 rfl).lt
  have HS := Lib.hid hS
  clear hS
  obtain ⟨f1, st1, tr1, f2, f3⟩ := one_yes (c1, c2) [0, 0, 0, 0, 0, 0, 0, 0] [] 0 (by decide) c1 c2
  have F1 := Lib.hid f1; have F2 := Lib.hid f2
  have f4 : tr1.length = 1 := f3
  have F4 := Lib.hid f4
  clear f1 f2 f3 f4
  go_wp2_with fail
  refine (do_to HS.out (by simp [one]) ((0 : Nat) : Int) ⟨2, 0, c1, c2, c1, c2⟩ F1.out (one_err _ _ _ 0 (by decide) _ _ _ _) F2.out).mono ?_
  rintro e w4 ⟨rfl, hS⟩
  unfold outV
  have hS := hS.new 41 [.int .u64 c1, .int .u64 c2, .bool true]
  clear HS p0 p1 q0 q1 s0 s1 t0 t1 pl ql sl tl
  have p0 := (hS.blk 2 rfl).cell 0
  have p1 := (hS.blk 2 rfl).cell 1
  have q0 := (hS.blk 3 rfl).cell 0
  have q1 := (hS.blk 3 rfl).cell 1
  have s0 := (hS.blk 4 rfl).cell 0
  have s1 := (hS.blk 4 rfl).cell 1
  have t0 := (hS.blk 5 rfl).cell 0
  have t1 := (hS.blk 5 rfl).cell 1
  simp only [List.getElem?_cons_zero, List.getElem?_cons_succ] at p0 p1 q0 q1 s0 s1 t0 t1
  have pl := (hS.blk 2 rfl).lt
  have ql := (hS.blk 3 rfl).lt
  have sl := (hS.blk 4 rfl).lt
  have tl := (hS.blk 5 rfl).lt
  have HS := Lib.hid hS
  clear hS F1 F2
  obtain ⟨g1, st2, tr2, g2, g3⟩ := one_yes (c1, c2) st1 tr1 1 (by decide) b1 b2
  have G1 := Lib.hid g1; have G2 := Lib.hid g2
  have g4 : tr2.length = 2 := by rw [g3, F4.out]
  have G4 := Lib.hid g4
  clear g1 g2 g3 g4
  go_wp2_with fail
  refine ((HS.out.call 1 rfl (fun R hR => do_to hR (by show tr1.length ≤ 100000; rw [F4.out]; decide) ((1 : Nat) : Int) ⟨2, 0, c1, c2, b1, b2⟩ G1.out (one_err _ _ _ 1 (by decide) _ _ _ _) G2.out))).mono ?_
  rintro e w5 ⟨rfl, hS⟩
  unfold outV
  have hS := hS.new 41 [.int .u64 c1, .int .u64 c2, .bool true]
  clear HS p0 p1 q0 q1 s0 s1 t0 t1 pl ql sl tl
  have p0 := (hS.blk 3 rfl).cell 0
  have p1 := (hS.blk 3 rfl).cell 1
  have q0 := (hS.blk 4 rfl).cell 0
  have q1 := (hS.blk 4 rfl).cell 1
  have s0 := (hS.blk 5 rfl).cell 0
  have s1 := (hS.blk 5 rfl).cell 1
  have t0 := (hS.blk 6 rfl).cell 0
  have t1 := (hS.blk 6 rfl).cell 1
  simp only [List.getElem?_cons_zero, List.getElem?_cons_succ] at p0 p1 q0 q1 s0 s1 t0 t1
  have pl := (hS.blk 3 rfl).lt
  have ql := (hS.blk 4 rfl).lt
  have sl := (hS.blk 5 rfl).lt
  have tl := (hS.blk 6 rfl).lt
  have u0 := (hS.blk 0 rfl).cell 0
  have u1 := (hS.blk 0 rfl).cell 1
  have u2 := (hS.blk 0 rfl).cell 2
  have v0 := (hS.blk 1 rfl).cell 0
  have v1 := (hS.blk 1 rfl).cell 1
  have v2 := (hS.blk 1 rfl).cell 2
  simp only [List.getElem?_cons_zero, List.getElem?_cons_succ] at u0 u1 u2 v0 v1 v2
  have HS := Lib.hid hS
  clear hS G1 G2
  go_wp2_with fail
  refine wp_region_fr [(1, [0, 1, 2, 3, 4, 5, 6, 7, 8, 9, 10, 11, 12, 13, 14, 15, 16, 17, 18, 19, 20, 21, 22, 23, 24, 25, 26, 27, 28, 29, 30])] [] (by kernel_rfl) (by kernel_rfl) ?_
  simp only [theOps, nthOp, List.map_cons, List.map_nil, Array.getD_eq_getD_getElem?, List.getElem?_toArray, List.getElem?_cons_succ, List.getElem?_cons_zero, Option.getD_some]
  repeat ((first | refine wpSegs_soft ?_ | refine wpSegs_pure ?_); (repeat (first | go_big_quiet_step (fail) | quiet_step (fail))); refine wpQuiet_nil ?_)
  refine wpSegs_done ?_
  go_wp2_with fail
  clear u0 u1 u2 v0 v1 v2
  obtain ⟨_, vc, vt, hM⟩ := sep_mem HS.out.drew 2 rfl
  refine (peek_any _ b vc vt _ 0 hM).mono ?_
  rintro e w6 ⟨rfl, hf⟩
  rw [show peek (one (b1, b2) st2 tr2) 0 = ((b1, b2), true) from rfl]
  clear hM
  have hS := (HS.out.drew.fr0 hf).new 35 [.int .u64 b1, .int .u64 b2]
  clear HS p0 p1 q0 q1 s0 s1 t0 t1 pl ql sl tl hf
  have p0 := (hS.blk 4 rfl).cell 0
  have p1 := (hS.blk 4 rfl).cell 1
  have q0 := (hS.blk 5 rfl).cell 0
  have q1 := (hS.blk 5 rfl).cell 1
  have s0 := (hS.blk 6 rfl).cell 0
  have s1 := (hS.blk 6 rfl).cell 1
  have t0 := (hS.blk 7 rfl).cell 0
  have t1 := (hS.blk 7 rfl).cell 1
  simp only [List.getElem?_cons_zero, List.getElem?_cons_succ] at p0 p1 q0 q1 s0 s1 t0 t1
  have pl := (hS.blk 4 rfl).lt
  have ql := (hS.blk 5 rfl).lt
  have sl := (hS.blk 6 rfl).lt
  have tl := (hS.blk 7 rfl).lt
  have HS := Lib.hid hS
  clear hS
  obtain ⟨g1, st3, tr3, g2, g3⟩ := one_no (b1, b2) st2 tr2 2 (by decide) b1 o2 c1 c2 (by rintro ⟨_, e⟩; exact h2 e)
  have G1 := Lib.hid g1; have G2 := Lib.hid g2
  clear g1 g2 g3
  go_wp2_with fail
  refine ((HS.out.call 3 rfl (fun R hR => do_to hR (by show tr2.length ≤ 100000; rw [G4.out]; decide) ((2 : Nat) : Int) ⟨2, 0, b1, o2, c1, c2⟩ G1.out (one_err _ _ _ 2 (by decide) _ _ _ _) G2.out))).mono ?_
  rintro e w7 ⟨rfl, hS⟩
  unfold outV
  have hS := hS.new 41 [.int .u64 b1, .int .u64 b2, .bool false]
  clear HS p0 p1 q0 q1 s0 s1 t0 t1 pl ql sl tl G1 G2
  have p0 := (hS.blk 5 rfl).cell 0
  have p1 := (hS.blk 5 rfl).cell 1
  have q0 := (hS.blk 6 rfl).cell 0
  have q1 := (hS.blk 6 rfl).cell 1
  have s0 := (hS.blk 7 rfl).cell 0
  have s1 := (hS.blk 7 rfl).cell 1
  have t0 := (hS.blk 8 rfl).cell 0
  have t1 := (hS.blk 8 rfl).cell 1
  simp only [List.getElem?_cons_zero, List.getElem?_cons_succ] at p0 p1 q0 q1 s0 s1 t0 t1
  have pl := (hS.blk 5 rfl).lt
  have ql := (hS.blk 6 rfl).lt
  have sl := (hS.blk 7 rfl).lt
  have tl := (hS.blk 8 rfl).lt
  have HS := Lib.hid hS
  clear hS
  go_wp2_with fail
  obtain ⟨_, vc, vt, hM⟩ := sep_mem HS.out 4 rfl
  refine (peek_any _ b vc vt _ 0 hM).mono ?_
  rintro e w8 ⟨rfl, hf⟩
  rw [show peek (one (b1, b2) st3 tr3) 0 = ((b1, b2), true) from rfl]
  clear hM
  have hS := (HS.out.fr0 hf).new 35 [.int .u64 b1, .int .u64 b2]
  clear HS p0 p1 q0 q1 s0 s1 t0 t1 pl ql sl tl hf
  have p0 := (hS.blk 6 rfl).cell 0
  have p1 := (hS.blk 6 rfl).cell 1
  have q0 := (hS.blk 7 rfl).cell 0
  have q1 := (hS.blk 7 rfl).cell 1
  have s0 := (hS.blk 8 rfl).cell 0
  have s1 := (hS.blk 8 rfl).cell 1
  have t0 := (hS.blk 9 rfl).cell 0
  have t1 := (hS.blk 9 rfl).cell 1
  simp only [List.getElem?_cons_zero, List.getElem?_cons_succ] at p0 p1 q0 q1 s0 s1 t0 t1
  have pl := (hS.blk 6 rfl).lt
  have ql := (hS.blk 7 rfl).lt
  have sl := (hS.blk 8 rfl).lt
  have tl := (hS.blk 9 rfl).lt
  have u0 := (hS.blk 1 rfl).cell 0
  have u1 := (hS.blk 1 rfl).cell 1
  have u2 := (hS.blk 1 rfl).cell 2
  have v0 := (hS.blk 2 rfl).cell 0
  have v1 := (hS.blk 2 rfl).cell 1
  have n0 := (hS.blk 0 rfl).cell 0
  have n1 := (hS.blk 0 rfl).cell 1
  simp only [List.getElem?_cons_zero, List.getElem?_cons_succ] at u0 u1 u2 v0 v1 n0 n1
  have HF := Lib.hid hS.fr
  clear hS
  go_wp2_with fail
  refine wp_region_fr [(1, [0, 1, 2, 3, 4, 5, 6, 7, 8, 9, 10, 11, 12, 13, 14, 15, 16, 17, 18, 19, 20, 21, 22, 23, 24, 25, 26, 27, 28, 29, 30, 31, 32, 33, 34, 35])] [] (by kernel_rfl) (by kernel_rfl) ?_
  simp only [theOps, nthOp, List.map_cons, List.map_nil, Array.getD_eq_getD_getElem?, List.getElem?_toArray, List.getElem?_cons_succ, List.getElem?_cons_zero, Option.getD_some]
  repeat ((first | refine wpSegs_soft ?_ | refine wpSegs_pure ?_); (repeat (first | go_big_quiet_step (fail) | quiet_step (fail))); refine wpQuiet_nil ?_)
  refine wpSegs_done ?_
  go_wp2_with fail
  go_ret
  exact ⟨rfl, HF.out.drew⟩
set_option maxHeartbeats 8000000 in
set_option maxRecDepth 100000 in
theorem swaps_n1_eq (c1 c2 a1 a2 b1 b2 : Int) (h1 : a1 ≠ c1) (w : World) :
    Calls Try.prog 4 #[.agg #[.int .u64 c1, .int .u64 c2], .agg #[.int .u64 a1, .int .u64 a2], .agg #[.int .u64 b1, .int .u64 b2], .agg #[.int .u64 a1, .int .u64 a2]] w fun e w' => e = .returned (.bool true) ∧ Fr [] w w' := by
  have hv1 : (a1 == c1) = false := by simpa using h1
  go_enter Try.func4, Try.ntmps4
  go_wp2_with fail
  refine (alive_any _).mono ?_
  rintro e w1 ⟨rfl, hf⟩
  have hS := ((((((Sep.nil (Fr.refl [] w)).new 35 [.int .u64 c1, .int .u64 c2]).new 35 [.int .u64 a1, .int .u64 a2]).new 35 [.int .u64 b1, .int .u64 b2]).new 35 [.int .u64 a1, .int .u64 a2])).fr0 hf
  simp only [World.size_alloc] at hS
  have p0 := (hS.blk 0 rfl).cell 0
  have p1 := (hS.blk 0 rfl).cell 1
  have q0 := (hS.blk 1 rfl).cell 0
  have q1 := (hS.blk 1 rfl).cell 1
  have s0 := (hS.blk 2 rfl).cell 0
  have s1 := (hS.blk 2 rfl).cell 1
  have t0 := (hS.blk 3 rfl).cell 0
  have t1 := (hS.blk 3 rfl).cell 1
  simp only [List.getElem?_cons_zero, List.getElem?_cons_succ] at p0 p1 q0 q1 s0 s1 t0 t1
  have pl := (hS.blk 0 rfl).lt
  have ql := (hS.blk 1 rfl).lt
  have sl := (hS.blk 2 rfl).lt
  have tl := (hS.blk 3 rfl).lt
  have HS := Lib.hid hS
  clear hS hf
  go_wp2_with fail
  refine (new_any w1 1 (by decide)).mono ?_
  rintro e w2 ⟨b, rfl, hF⟩
  have hS := HS.out.fresh hF
  clear hF HS p0 p1 q0 q1 s0 s1 t0 t1 pl ql sl tl
  have p0 := (hS.blk 1 rfl).cell 0
  have p1 := (hS.blk 1 rfl).cell 1
  have q0 := (hS.blk 2 rfl).cell 0
  have q1 := (hS.blk 2 rfl).cell 1
  have s0 := (hS.blk 3 rfl).cell 0
  have s1 := (hS.blk 3 rfl).cell 1
  have t0 := (hS.blk 4 rfl).cell 0
  have t1 := (hS.blk 4 rfl).cell 1
  simp only [List.getElem?_cons_zero, List.getElem?_cons_succ] at p0 p1 q0 q1 s0 s1 t0 t1
  have pl := (hS.blk 1 rfl).lt
  have ql := (hS.blk 2 rfl).lt
  have sl := (hS.blk 3 rfl).lt
  have tl := (hS.blk 4 rfl).lt
  have HS := Lib.hid hS
  clear hS
  go_wp2_with fail
  refine (set_any HS.out 0 (c1, c2)).mono ?_
  rintro e w3 ⟨rfl, hS⟩
  rw [one_put] at hS
  clear HS p0 p1 q0 q1 s0 s1 t0 t1 pl ql sl tl
  have p0 := (hS.blk 1 rfl).cell 0
  have p1 := (hS.blk 1 rfl).cell 1
  have q0 := (hS.blk 2 rfl).cell 0
  have q1 := (hS.blk 2 rfl).cell 1
  have s0 := (hS.blk 3 rfl).cell 0
  have s1 := (hS.blk 3 rfl).cell 1
  have t0 := (hS.blk 4 rfl).cell 0
  have t1 := (hS.blk 4 rfl).cell 1
  simp only [List.getElem?_cons_zero, List.getElem?_cons_succ] at p0 p1 q0 q1 s0 s1 t0 t1
  have pl := (hS.blk 1 rfl).lt
  have ql := (hS.blk 2 rfl).lt
  have sl := (hS.blk 3 rfl).lt
  have tl := (hS.blk 4 rfl).lt
  have HS := Lib.hid hS
  clear hS
  obtain ⟨f1, st1, tr1, f2, f3⟩ := one_yes (c1, c2) [0, 0, 0, 0, 0, 0, 0, 0] [] 0 (by decide) a1 a2
  have F1 := Lib.hid f1; have F2 := Lib.hid f2
  have f4 : tr1.length = 1 := f3
  have F4 := Lib.hid f4
  clear f1 f2 f3 f4
  go_wp2_with fail
  refine (do_to HS.out (by simp [one]) ((0 : Nat) : Int) ⟨2, 0, c1, c2, a1, a2⟩ F1.out (one_err _ _ _ 0 (by decide) _ _ _ _) F2.out).mono ?_
  rintro e w4 ⟨rfl, hS⟩
  unfold outV
  have hS := hS.new 41 [.int .u64 c1, .int .u64 c2, .bool true]
  clear HS p0 p1 q0 q1 s0 s1 t0 t1 pl ql sl tl
  have p0 := (hS.blk 2 rfl).cell 0
  have p1 := (hS.blk 2 rfl).cell 1
  have q0 := (hS.blk 3 rfl).cell 0
  have q1 := (hS.blk 3 rfl).cell 1
  have s0 := (hS.blk 4 rfl).cell 0
  have s1 := (hS.blk 4 rfl).cell 1
  have t0 := (hS.blk 5 rfl).cell 0
  have t1 := (hS.blk 5 rfl).cell 1
  simp only [List.getElem?_cons_zero, List.getElem?_cons_succ] at p0 p1 q0 q1 s0 s1 t0 t1
  have pl := (hS.blk 2 rfl).lt
  have ql := (hS.blk 3 rfl).lt
  have sl := (hS.blk 4 rfl).lt
  have tl := (hS.blk 5 rfl).lt
  have HS := Lib.hid hS
  clear hS F1 F2
  obtain ⟨g1, st2, tr2, g2, g3⟩ := one_no (a1, a2) st1 tr1 1 (by decide) c1 c2 b1 b2 (by rintro ⟨e, _⟩; exact h1 e)
  have G1 := Lib.hid g1; have G2 := Lib.hid g2
  have g4 : tr2.length = 2 := by rw [g3, F4.out]
  have G4 := Lib.hid g4
  clear g1 g2 g3 g4
  go_wp2_with fail
  refine ((HS.out.call 1 rfl (fun R hR => do_to hR (by show tr1.length ≤ 100000; rw [F4.out]; decide) ((1 : Nat) : Int) ⟨2, 0, c1, c2, b1, b2⟩ G1.out (one_err _ _ _ 1 (by decide) _ _ _ _) G2.out))).mono ?_
  rintro e w5 ⟨rfl, hS⟩
  unfold outV
  have hS := hS.new 41 [.int .u64 a1, .int .u64 a2, .bool false]
  clear HS p0 p1 q0 q1 s0 s1 t0 t1 pl ql sl tl
  have p0 := (hS.blk 3 rfl).cell 0
  have p1 := (hS.blk 3 rfl).cell 1
  have q0 := (hS.blk 4 rfl).cell 0
  have q1 := (hS.blk 4 rfl).cell 1
  have s0 := (hS.blk 5 rfl).cell 0
  have s1 := (hS.blk 5 rfl).cell 1
  have t0 := (hS.blk 6 rfl).cell 0
  have t1 := (hS.blk 6 rfl).cell 1
  simp only [List.getElem?_cons_zero, List.getElem?_cons_succ] at p0 p1 q0 q1 s0 s1 t0 t1
  have pl := (hS.blk 3 rfl).lt
  have ql := (hS.blk 4 rfl).lt
  have sl := (hS.blk 5 rfl).lt
  have tl := (hS.blk 6 rfl).lt
  have u0 := (hS.blk 0 rfl).cell 0
  have u1 := (hS.blk 0 rfl).cell 1
  have u2 := (hS.blk 0 rfl).cell 2
  have v0 := (hS.blk 1 rfl).cell 0
  have v1 := (hS.blk 1 rfl).cell 1
  have v2 := (hS.blk 1 rfl).cell 2
  simp only [List.getElem?_cons_zero, List.getElem?_cons_succ] at u0 u1 u2 v0 v1 v2
  have HS := Lib.hid hS
  clear hS G1 G2
  go_wp2_with fail
  refine wp_region_fr [(1, [0, 1, 2, 3, 4, 5, 6, 7, 8, 9, 10, 11, 12, 13, 14, 15, 16, 17, 18, 19, 20, 21, 22, 23, 24, 25, 26, 27, 28, 29, 30])] [] (by kernel_rfl) (by kernel_rfl) ?_
  simp only [theOps, nthOp, List.map_cons, List.map_nil, Array.getD_eq_getD_getElem?, List.getElem?_toArray, List.getElem?_cons_succ, List.getElem?_cons_zero, Option.getD_some]
  repeat ((first | refine wpSegs_soft ?_ | refine wpSegs_pure ?_); (repeat (first | go_big_quiet_step (fail) | quiet_step (fail))); refine wpQuiet_nil ?_)
  refine wpSegs_done ?_
  go_wp2_with fail
  clear u0 u1 u2 v0 v1 v2
  obtain ⟨_, vc, vt, hM⟩ := sep_mem HS.out.drew 2 rfl
  refine (peek_any _ b vc vt _ 0 hM).mono ?_
  rintro e w6 ⟨rfl, hf⟩
  rw [show peek (one (a1, a2) st2 tr2) 0 = ((a1, a2), true) from rfl]
  clear hM
  have hS := (HS.out.drew.fr0 hf).new 35 [.int .u64 a1, .int .u64 a2]
  clear HS p0 p1 q0 q1 s0 s1 t0 t1 pl ql sl tl hf
  have p0 := (hS.blk 4 rfl).cell 0
  have p1 := (hS.blk 4 rfl).cell 1
  have q0 := (hS.blk 5 rfl).cell 0
  have q1 := (hS.blk 5 rfl).cell 1
  have s0 := (hS.blk 6 rfl).cell 0
  have s1 := (hS.blk 6 rfl).cell 1
  have t0 := (hS.blk 7 rfl).cell 0
  have t1 := (hS.blk 7 rfl).cell 1
  simp only [List.getElem?_cons_zero, List.getElem?_cons_succ] at p0 p1 q0 q1 s0 s1 t0 t1
  have pl := (hS.blk 4 rfl).lt
  have ql := (hS.blk 5 rfl).lt
  have sl := (hS.blk 6 rfl).lt
  have tl := (hS.blk 7 rfl).lt
  have HS := Lib.hid hS
  clear hS
  obtain ⟨g1, st3, tr3, g2, g3⟩ := one_yes (a1, a2) st2 tr2 2 (by decide) c1 c2
  have G1 := Lib.hid g1; have G2 := Lib.hid g2
  clear g1 g2 g3
  go_wp2_with fail
  refine ((HS.out.call 3 rfl (fun R hR => do_to hR (by show tr2.length ≤ 100000; rw [G4.out]; decide) ((2 : Nat) : Int) ⟨2, 0, a1, a2, c1, c2⟩ G1.out (one_err _ _ _ 2 (by decide) _ _ _ _) G2.out))).mono ?_
  rintro e w7 ⟨rfl, hS⟩
  unfold outV
  have hS := hS.new 41 [.int .u64 a1, .int .u64 a2, .bool true]
  clear HS p0 p1 q0 q1 s0 s1 t0 t1 pl ql sl tl G1 G2
  have p0 := (hS.blk 5 rfl).cell 0
  have p1 := (hS.blk 5 rfl).cell 1
  have q0 := (hS.blk 6 rfl).cell 0
  have q1 := (hS.blk 6 rfl).cell 1
  have s0 := (hS.blk 7 rfl).cell 0
  have s1 := (hS.blk 7 rfl).cell 1
  have t0 := (hS.blk 8 rfl).cell 0
  have t1 := (hS.blk 8 rfl).cell 1
  simp only [List.getElem?_cons_zero, List.getElem?_cons_succ] at p0 p1 q0 q1 s0 s1 t0 t1
  have pl := (hS.blk 5 rfl).lt
  have ql := (hS.blk 6 rfl).lt
  have sl := (hS.blk 7 rfl).lt
  have tl := (hS.blk 8 rfl).lt
  have HS := Lib.hid hS
  clear hS
  go_wp2_with fail
  obtain ⟨_, vc, vt, hM⟩ := sep_mem HS.out 4 rfl
  refine (peek_any _ b vc vt _ 0 hM).mono ?_
  rintro e w8 ⟨rfl, hf⟩
  rw [show peek (one (c1, c2) st3 tr3) 0 = ((c1, c2), true) from rfl]
  clear hM
  have hS := (HS.out.fr0 hf).new 35 [.int .u64 c1, .int .u64 c2]
  clear HS p0 p1 q0 q1 s0 s1 t0 t1 pl ql sl tl hf
  have p0 := (hS.blk 6 rfl).cell 0
  have p1 := (hS.blk 6 rfl).cell 1
  have q0 := (hS.blk 7 rfl).cell 0
  have q1 := (hS.blk 7 rfl).cell 1
  have s0 := (hS.blk 8 rfl).cell 0
  have s1 := (hS.blk 8 rfl).cell 1
  have t0 := (hS.blk 9 rfl).cell 0
  have t1 := (hS.blk 9 rfl).cell 1
  simp only [List.getElem?_cons_zero, List.getElem?_cons_succ] at p0 p1 q0 q1 s0 s1 t0 t1
  have pl := (hS.blk 6 rfl).lt
  have ql := (hS.blk 7 rfl).lt
  have sl := (hS.blk 8 rfl).lt
  have tl := (hS.blk 9 rfl).lt
  have u0 := (hS.blk 1 rfl).cell 0
  have u1 := (hS.blk 1 rfl).cell 1
  have u2 := (hS.blk 1 rfl).cell 2
  have v0 := (hS.blk 2 rfl).cell 0
  have v1 := (hS.blk 2 rfl).cell 1
  have n0 := (hS.blk 0 rfl).cell 0
  have n1 := (hS.blk 0 rfl).cell 1
  simp only [List.getElem?_cons_zero, List.getElem?_cons_succ] at u0 u1 u2 v0 v1 n0 n1
  have HF := Lib.hid hS.fr
  clear hS
  go_wp2_with fail
  refine wp_region_fr [(1, [0, 1, 2, 3, 4, 5, 6, 7, 8, 9, 10, 11, 12, 13, 14, 15, 16, 17, 18, 19, 20, 21, 22, 23, 24, 25, 26, 27, 28, 29, 30, 31, 32, 33, 34, 35])] [] (by kernel_rfl) (by kernel_rfl) ?_
  simp only [theOps, nthOp, List.map_cons, List.map_nil, Array.getD_eq_getD_getElem?, List.getElem?_toArray, List.getElem?_cons_succ, List.getElem?_cons_zero, Option.getD_some]
  repeat ((first | refine wpSegs_soft ?_ | refine wpSegs_pure ?_); (repeat (first | go_big_quiet_step (fail) | quiet_step (fail))); refine wpQuiet_nil ?_)
  refine wpSegs_done ?_
  go_wp2_with fail
  go_ret
  exact ⟨rfl, HF.out.drew⟩
set_option maxHeartbeats 8000000 in
set_option maxRecDepth 100000 in
theorem swaps_n1_n1 (c1 c2 a1 a2 b1 b2 o1 o2 : Int) (h1 : a1 ≠ c1) (h2 : a1 ≠ o1) (w : World) :
    Calls Try.prog 4 #[.agg #[.int .u64 c1, .int .u64 c2], .agg #[.int .u64 a1, .int .u64 a2], .agg #[.int .u64 b1, .int .u64 b2], .agg #[.int .u64 o1, .int .u64 o2]] w fun e w' => e = .returned (.bool true) ∧ Fr [] w w' := by
  have hv1 : (a1 == c1) = false := by simpa using h1
  have hv2 : (a1 == o1) = false := by simpa using h2
  go_enter Try.func4, Try.ntmps4
  go_wp2_with fail
  refine (alive_any _).mono ?_
  rintro e w1 ⟨rfl, hf⟩
  have hS := ((((((Sep.nil (Fr.refl [] w)).new 35 [.int .u64 c1, .int .u64 c2]).new 35 [.int .u64 a1, .int .u64 a2]).new 35 [.int .u64 b1, .int .u64 b2]).new 35 [.int .u64 o1, .int .u64 o2])).fr0 hf
  simp only [World.size_alloc] at hS
  have p0 := (hS.blk 0 rfl).cell 0
  have p1 := (hS.blk 0 rfl).cell 1
  have q0 := (hS.blk 1 rfl).cell 0
  have q1 := (hS.blk 1 rfl).cell 1
  have s0 := (hS.blk 2 rfl).cell 0
  have s1 := (hS.blk 2 rfl).cell 1
  have t0 := (hS.blk 3 rfl).cell 0
  have t1 := (hS.blk 3 rfl).cell 1
  simp only [List.getElem?_cons_zero, List.getElem?_cons_succ] at p0 p1 q0 q1 s0 s1 t0 t1
  have pl := (hS.blk 0 rfl).lt
  have ql := (hS.blk 1 rfl).lt
  have sl := (hS.blk 2 rfl).lt
  have tl := (hS.blk 3 rfl).lt
  have HS := Lib.hid hS
  clear hS hf
  go_wp2_with fail
  refine (new_any w1 1 (by decide)).mono ?_
  rintro e w2 ⟨b, rfl, hF⟩
  have hS := HS.out.fresh hF
  clear hF HS p0 p1 q0 q1 s0 s1 t0 t1 pl ql sl tl
  have p0 := (hS.blk 1 rfl).cell 0
  have p1 := (hS.blk 1 rfl).cell 1
  have q0 := (hS.blk 2 rfl).cell 0
  have q1 := (hS.blk 2 rfl).cell 1
  have s0 := (hS.blk 3 rfl).cell 0
  have s1 := (hS.blk 3 rfl).cell 1
  have t0 := (hS.blk 4 rfl).cell 0
  have t1 := (hS.blk 4 rfl).cell 1
  simp only [List.getElem?_cons_zero, List.getElem?_cons_succ] at p0 p1 q0 q1 s0 s1 t0 t1
  have pl := (hS.blk 1 rfl).lt
  have ql := (hS.blk 2 rfl).lt
  have sl := (hS.blk 3 rfl).lt
  have tl := (hS.blk 4 rfl).lt
  have HS := Lib.hid hS
  clear hS
  go_wp2_with fail
  refine (set_any HS.out 0 (c1, c2)).mono ?_
  rintro e w3 ⟨rfl, hS⟩
  rw [one_put] at hS
  clear HS p0 p1 q0 q1 s0 s1 t0 t1 pl ql sl tl
  have p0 := (hS.blk 1 rfl).cell 0
  have p1 := (hS.blk 1 rfl).cell 1
  have q0 := (hS.blk 2 rfl).cell 0
  have q1 := (hS.blk 2 rfl).cell 1
  have s0 := (hS.blk 3 rfl).cell 0
  have s1 := (hS.blk 3 rfl).cell 1
  have t0 := (hS.blk 4 rfl).cell 0
  have t1 := (hS.blk 4 rfl).cell 1
  simp only [List.getElem?_cons_zero, List.getElem?_cons_succ] at p0 p1 q0 q1 s0 s1 t0 t1
  have pl := (hS.blk 1 rfl).lt
  have ql := (hS.blk 2 rfl).lt
  have sl := (hS.blk 3 rfl).lt
  have tl := (hS.blk 4 rfl).lt
  have HS := Lib.hid hS
  clear hS
  obtain ⟨f1, st1, tr1, f2, f3⟩ := one_yes (c1, c2) [0, 0, 0, 0, 0, 0, 0, 0] [] 0 (by decide) a1 a2
  have F1 := Lib.hid f1; have F2 := Lib.hid f2
  have f4 : tr1.length = 1 := f3
  have F4 := Lib.hid f4
  clear f1 f2 f3 f4
  go_wp2_with fail
  refine (do_to HS.out (by simp [one]) ((0 : Nat) : Int) ⟨2, 0, c1, c2, a1, a2⟩ F1.out (one_err _ _ _ 0 (by decide) _ _ _ _) F2.out).mono ?_
  rintro e w4 ⟨rfl, hS⟩
  unfold outV
  have hS := hS.new 41 [.int .u64 c1, .int .u64 c2, .bool true]
  clear HS p0 p1 q0 q1 s0 s1 t0 t1 pl ql sl tl
  have p0 := (hS.blk 2 rfl).cell 0
  have p1 := (hS.blk 2 rfl).cell 1
  have q0 := (hS.blk 3 rfl).cell 0
  have q1 := (hS.blk 3 rfl).cell 1
  have s0 := (hS.blk 4 rfl).cell 0
  have s1 := (hS.blk 4 rfl).cell 1
  have t0 := (hS.blk 5 rfl).cell 0
  have t1 := (hS.blk 5 rfl).cell 1
  simp only [List.getElem?_cons_zero, List.getElem?_cons_succ] at p0 p1 q0 q1 s0 s1 t0 t1
  have pl := (hS.blk 2 rfl).lt
  have ql := (hS.blk 3 rfl).lt
  have sl := (hS.blk 4 rfl).lt
  have tl := (hS.blk 5 rfl).lt
  have HS := Lib.hid hS
  clear hS F1 F2
  obtain ⟨g1, st2, tr2, g2, g3⟩ := one_no (a1, a2) st1 tr1 1 (by decide) c1 c2 b1 b2 (by rintro ⟨e, _⟩; exact h1 e)
  have G1 := Lib.hid g1; have G2 := Lib.hid g2
  have g4 : tr2.length = 2 := by rw [g3, F4.out]
  have G4 := Lib.hid g4
  clear g1 g2 g3 g4
  go_wp2_with fail
  refine ((HS.out.call 1 rfl (fun R hR => do_to hR (by show tr1.length ≤ 100000; rw [F4.out]; decide) ((1 : Nat) : Int) ⟨2, 0, c1, c2, b1, b2⟩ G1.out (one_err _ _ _ 1 (by decide) _ _ _ _) G2.out))).mono ?_
  rintro e w5 ⟨rfl, hS⟩
  unfold outV
  have hS := hS.new 41 [.int .u64 a1, .int .u64 a2, .bool false]
  clear HS p0 p1 q0 q1 s0 s1 t0 t1 pl ql sl tl
  have p0 := (hS.blk 3 rfl).cell 0
  have p1 := (hS.blk 3 rfl).cell 1
  have q0 := (hS.blk 4 rfl).cell 0
  have q1 := (hS.blk 4 rfl).cell 1
  have s0 := (hS.blk 5 rfl).cell 0
  have s1 := (hS.blk 5 rfl).cell 1
  have t0 := (hS.blk 6 rfl).cell 0
  have t1 := (hS.blk 6 rfl).cell 1
  simp only [List.getElem?_cons_zero, List.getElem?_cons_succ] at p0 p1 q0 q1 s0 s1 t0 t1
  have pl := (hS.blk 3 rfl).lt
  have ql := (hS.blk 4 rfl).lt
  have sl := (hS.blk 5 rfl).lt
  have tl := (hS.blk 6 rfl).lt
  have u0 := (hS.blk 0 rfl).cell 0
  have u1 := (hS.blk 0 rfl).cell 1
  have u2 := (hS.blk 0 rfl).cell 2
  have v0 := (hS.blk 1 rfl).cell 0
  have v1 := (hS.blk 1 rfl).cell 1
  have v2 := (hS.blk 1 rfl).cell 2
  simp only [List.getElem?_cons_zero, List.getElem?_cons_succ] at u0 u1 u2 v0 v1 v2
  have HS := Lib.hid hS
  clear hS G1 G2
  go_wp2_with fail
  refine wp_region_fr [(1, [0, 1, 2, 3, 4, 5, 6, 7, 8, 9, 10, 11, 12, 13, 14, 15, 16, 17, 18, 19, 20, 21, 22, 23, 24, 25, 26, 27, 28, 29, 30])] [] (by kernel_rfl) (by kernel_rfl) ?_
  simp only [theOps, nthOp, List.map_cons, List.map_nil, Array.getD_eq_getD_getElem?, List.getElem?_toArray, List.getElem?_cons_succ, List.getElem?_cons_zero, Option.getD_some]
  repeat ((first | refine wpSegs_soft ?_ | refine wpSegs_pure ?_); (repeat (first | go_big_quiet_step (fail) | quiet_step (fail))); refine wpQuiet_nil ?_)
  refine wpSegs_done ?_
  go_wp2_with fail
  clear u0 u1 u2 v0 v1 v2
  obtain ⟨_, vc, vt, hM⟩ := sep_mem HS.out.drew 2 rfl
  refine (peek_any _ b vc vt _ 0 hM).mono ?_
  rintro e w6 ⟨rfl, hf⟩
  rw [show peek (one (a1, a2) st2 tr2) 0 = ((a1, a2), true) from rfl]
  clear hM
  have hS := (HS.out.drew.fr0 hf).new 35 [.int .u64 a1, .int .u64 a2]
  clear HS p0 p1 q0 q1 s0 s1 t0 t1 pl ql sl tl hf
  have p0 := (hS.blk 4 rfl).cell 0
  have p1 := (hS.blk 4 rfl).cell 1
  have q0 := (hS.blk 5 rfl).cell 0
  have q1 := (hS.blk 5 rfl).cell 1
  have s0 := (hS.blk 6 rfl).cell 0
  have s1 := (hS.blk 6 rfl).cell 1
  have t0 := (hS.blk 7 rfl).cell 0
  have t1 := (hS.blk 7 rfl).cell 1
  simp only [List.getElem?_cons_zero, List.getElem?_cons_succ] at p0 p1 q0 q1 s0 s1 t0 t1
  have pl := (hS.blk 4 rfl).lt
  have ql := (hS.blk 5 rfl).lt
  have sl := (hS.blk 6 rfl).lt
  have tl := (hS.blk 7 rfl).lt
  have HS := Lib.hid hS
  clear hS
  obtain ⟨g1, st3, tr3, g2, g3⟩ := one_no (a1, a2) st2 tr2 2 (by decide) o1 o2 c1 c2 (by rintro ⟨e, _⟩; exact h2 e)
  have G1 := Lib.hid g1; have G2 := Lib.hid g2
  clear g1 g2 g3
  go_wp2_with fail
  refine ((HS.out.call 3 rfl (fun R hR => do_to hR (by show tr2.length ≤ 100000; rw [G4.out]; decide) ((2 : Nat) : Int) ⟨2, 0, o1, o2, c1, c2⟩ G1.out (one_err _ _ _ 2 (by decide) _ _ _ _) G2.out))).mono ?_
  rintro e w7 ⟨rfl, hS⟩
  unfold outV
  have hS := hS.new 41 [.int .u64 a1, .int .u64 a2, .bool false]
  clear HS p0 p1 q0 q1 s0 s1 t0 t1 pl ql sl tl G1 G2
  have p0 := (hS.blk 5 rfl).cell 0
  have p1 := (hS.blk 5 rfl).cell 1
  have q0 := (hS.blk 6 rfl).cell 0
  have q1 := (hS.blk 6 rfl).cell 1
  have s0 := (hS.blk 7 rfl).cell 0
  have s1 := (hS.blk 7 rfl).cell 1
  have t0 := (hS.blk 8 rfl).cell 0
  have t1 := (hS.blk 8 rfl).cell 1
  simp only [List.getElem?_cons_zero, List.getElem?_cons_succ] at p0 p1 q0 q1 s0 s1 t0 t1
  have pl := (hS.blk 5 rfl).lt
  have ql := (hS.blk 6 rfl).lt
  have sl := (hS.blk 7 rfl).lt
  have tl := (hS.blk 8 rfl).lt
  have HS := Lib.hid hS
  clear hS
  go_wp2_with fail
  obtain ⟨_, vc, vt, hM⟩ := sep_mem HS.out 4 rfl
  refine (peek_any _ b vc vt _ 0 hM).mono ?_
  rintro e w8 ⟨rfl, hf⟩
  rw [show peek (one (a1, a2) st3 tr3) 0 = ((a1, a2), true) from rfl]
  clear hM
  have hS := (HS.out.fr0 hf).new 35 [.int .u64 a1, .int .u64 a2]
  clear HS p0 p1 q0 q1 s0 s1 t0 t1 pl ql sl tl hf
  have p0 := (hS.blk 6 rfl).cell 0
  have p1 := (hS.blk 6 rfl).cell 1
  have q0 := (hS.blk 7 rfl).cell 0
  have q1 := (hS.blk 7 rfl).cell 1
  have s0 := (hS.blk 8 rfl).cell 0
  have s1 := (hS.blk 8 rfl).cell 1
  have t0 := (hS.blk 9 rfl).cell 0
  have t1 := (hS.blk 9 rfl).cell 1
  simp only [List.getElem?_cons_zero, List.getElem?_cons_succ] at p0 p1 q0 q1 s0 s1 t0 t1
  have pl := (hS.blk 6 rfl).lt
  have ql := (hS.blk 7 rfl).lt
  have sl := (hS.blk 8 rfl).lt
  have tl := (hS.blk 9 rfl).lt
  have u0 := (hS.blk 1 rfl).cell 0
  have u1 := (hS.blk 1 rfl).cell 1
  have u2 := (hS.blk 1 rfl).cell 2
  have v0 := (hS.blk 2 rfl).cell 0
  have v1 := (hS.blk 2 rfl).cell 1
  have n0 := (hS.blk 0 rfl).cell 0
  have n1 := (hS.blk 0 rfl).cell 1
  simp only [List.getElem?_cons_zero, List.getElem?_cons_succ] at u0 u1 u2 v0 v1 n0 n1
  have HF := Lib.hid hS.fr
  clear hS
  go_wp2_with fail
  refine wp_region_fr [(1, [0, 1, 2, 3, 4, 5, 6, 7, 8, 9, 10, 11, 12, 13, 14, 15, 16, 17, 18, 19, 20, 21, 22, 23, 24, 25, 26, 27, 28, 29, 30, 31, 32, 33, 34, 35])] [] (by kernel_rfl) (by kernel_rfl) ?_
  simp only [theOps, nthOp, List.map_cons, List.map_nil, Array.getD_eq_getD_getElem?, List.getElem?_toArray, List.getElem?_cons_succ, List.getElem?_cons_zero, Option.getD_some]
  repeat ((first | refine wpSegs_soft ?_ | refine wpSegs_pure ?_); (repeat (first | go_big_quiet_step (fail) | quiet_step (fail))); refine wpQuiet_nil ?_)
  refine wpSegs_done ?_
  go_wp2_with fail
  go_ret
  exact ⟨rfl, HF.out.drew⟩
set_option maxHeartbeats 8000000 in
set_option maxRecDepth 100000 in
theorem swaps_n1_n2 (c1 c2 a1 a2 b1 b2 o2 : Int) (h1 : a1 ≠ c1) (h2 : a2 ≠ o2) (w : World) :
    Calls Try.prog 4 #[.agg #[.int .u64 c1, .int .u64 c2], .agg #[.int .u64 a1, .int .u64 a2], .agg #[.int .u64 b1, .int .u64 b2], .agg #[.int .u64 a1, .int .u64 o2]] w fun e w' => e = .returned (.bool true) ∧ Fr [] w w' := by
  have hv1 : (a1 == c1) = false := by simpa using h1
  have hv2 : (a2 == o2) = false := by simpa using h2
  go_enter Try.func4, Try.ntmps4
  go_wp2_with fail
  refine (alive_any _).mono ?_
  rintro e w1 ⟨rfl, hf⟩
  have hS := ((((((Sep.nil (Fr.refl [] w)).new 35 [.int .u64 c1, .int .u64 c2]).new 35 [.int .u64 a1, .int .u64 a2]).new 35 [.int .u64 b1, .int .u64 b2]).new 35 [.int .u64 a1, .int .u64 o2])).fr0 hf
  simp only [World.size_alloc] at hS
  have p0 := (hS.blk 0 rfl).cell 0
  have p1 := (hS.blk 0 rfl).cell 1
  have q0 := (hS.blk 1 rfl).cell 0
  have q1 := (hS.blk 1 rfl).cell 1
  have s0 := (hS.blk 2 rfl).cell 0
  have s1 := (hS.blk 2 rfl).cell 1
  have t0 := (hS.blk 3 rfl).cell 0
  have t1 := (hS.blk 3 rfl).cell 1
  simp only [List.getElem?_cons_zero, List.getElem?_cons_succ] at p0 p1 q0 q1 s0 s1 t0 t1
  have pl := (hS.blk 0 rfl).lt
  have ql := (hS.blk 1 rfl).lt
  have sl := (hS.blk 2 rfl).lt
  have tl := (hS.blk 3 rfl).lt
  have HS := Lib.hid hS
  clear hS hf
  go_wp2_with fail
  refine (new_any w1 1 (by decide)).mono ?_
  rintro e w2 ⟨b, rfl, hF⟩
  have hS := HS.out.fresh hF
  clear hF HS p0 p1 q0 q1 s0 s1 t0 t1 pl ql sl tl
  have p0 := (hS.blk 1 rfl).cell 0
  have p1 := (hS.blk 1 rfl).cell 1
  have q0 := (hS.blk 2 rfl).cell 0
  have q1 := (hS.blk 2 rfl).cell 1
  have s0 := (hS.blk 3 rfl).cell 0
  have s1 := (hS.blk 3 rfl).cell 1
  have t0 := (hS.blk 4 rfl).cell 0
  have t1 := (hS.blk 4 rfl).cell 1
  simp only [List.getElem?_cons_zero, List.getElem?_cons_succ] at p0 p1 q0 q1 s0 s1 t0 t1
  have pl := (hS.blk 1 rfl).lt
  have ql := (hS.blk 2 rfl).lt
  have sl := (hS.blk 3 rfl).lt
  have tl := (hS.blk 4 rfl).lt
  have HS := Lib.hid hS
  clear hS
  go_wp2_with fail
  refine (set_any HS.out 0 (c1, c2)).mono ?_
  rintro e w3 ⟨rfl, hS⟩
  rw [one_put] at hS
  clear HS p0 p1 q0 q1 s0 s1 t0 t1 pl ql sl tl
  have p0 := (hS.blk 1 rfl).cell 0
  have p1 := (hS.blk 1 rfl).cell 1
  have q0 := (hS.blk 2 rfl).cell 0
  have q1 := (hS.blk 2 rfl).cell 1
  have s0 := (hS.blk 3 rfl).cell 0
  have s1 := (hS.blk 3 rfl).cell 1
  have t0 := (hS.blk 4 rfl).cell 0
  have t1 := (hS.blk 4 rfl).cell 1
  simp only [List.getElem?_cons_zero, List.getElem?_cons_succ] at p0 p1 q0 q1 s0 s1 t0 t1
  have pl := (hS.blk 1 rfl).lt
  have ql := (hS.blk 2 rfl).lt
  have sl := (hS.blk 3 rfl).lt
  have tl := (hS.blk 4 rfl).lt
  have HS := Lib.hid hS
  clear hS
  obtain ⟨f1, st1, tr1, f2, f3⟩ := one_yes (c1, c2) [0, 0, 0, 0, 0, 0, 0, 0] [] 0 (by decide) a1 a2
  have F1 := Lib.hid f1; have F2 := Lib.hid f2
  have f4 : tr1.length = 1 := f3
  have F4 := Lib.hid f4
  clear f1 f2 f3 f4
  go_wp2_with fail
  refine (do_to HS.out (by simp [one]) ((0 : Nat) : Int) ⟨2, 0, c1, c2, a1, a2⟩ F1.out (one_err _ _ _ 0 (by decide) _ _ _ _) F2.out).mono ?_
  rintro e w4 ⟨rfl, hS⟩
  unfold outV
  have hS := hS.new 41 [.int .u64 c1, .int .u64 c2, .bool true]
  clear HS p0 p1 q0 q1 s0 s1 t0 t1 pl ql sl tl
  have p0 := (hS.blk 2 rfl).cell 0
  have p1 := (hS.blk 2 rfl).cell 1
  have q0 := (hS.blk 3 rfl).cell 0
  have q1 := (hS.blk 3 rfl).cell 1
  have s0 := (hS.blk 4 rfl).cell 0
  have s1 := (hS.blk 4 rfl).cell 1
  have t0 := (hS.blk 5 rfl).cell 0
  have t1 := (hS.blk 5 rfl).cell 1
  simp only [List.getElem?_cons_zero, List.getElem?_cons_succ] at p0 p1 q0 q1 s0 s1 t0 t1
  have pl := (hS.blk 2 rfl).lt
  have ql := (hS.blk 3 rfl).lt
  have sl := (hS.blk 4 rfl).lt
  have tl := (hS.blk 5 rfl).lt
  have HS := Lib.hid hS
  clear hS F1 F2
  obtain ⟨g1, st2, tr2, g2, g3⟩ := one_no (a1, a2) st1 tr1 1 (by decide) c1 c2 b1 b2 (by rintro ⟨e, _⟩; exact h1 e)
  have G1 := Lib.hid g1; have G2 := Lib.hid g2
  have g4 : tr2.length = 2 := by rw [g3, F4.out]
  have G4 := Lib.hid g4
  clear g1 g2 g3 g4
  go_wp2_with fail
  refine ((HS.out.call 1 rfl (fun R hR => do_to hR (by show tr1.length ≤ 100000; rw [F4.out]; decide) ((1 : Nat) : Int) ⟨2, 0, c1, c2, b1, b2⟩ G1.out (one_err _ _ _ 1 (by decide) _ _ _ _) G2.out))).mono ?_
  rintro e w5 ⟨rfl, hS⟩
  unfold outV
  have hS := hS.new 41 [.int .u64 a1, .int .u64 a2, .bool false]
  clear HS p0 p1 q0 q1 s0 s1 t0 t1 pl ql sl tl
  have p0 := (hS.blk 3 rfl).cell 0
  have p1 := (hS.blk 3 rfl).cell 1
  have q0 := (hS.blk 4 rfl).cell 0
  have q1 := (hS.blk 4 rfl).cell 1
  have s0 := (hS.blk 5 rfl).cell 0
  have s1 := (hS.blk 5 rfl).cell 1
  have t0 := (hS.blk 6 rfl).cell 0
  have t1 := (hS.blk 6 rfl).cell 1
  simp only [List.getElem?_cons_zero, List.getElem?_cons_succ] at p0 p1 q0 q1 s0 s1 t0 t1
  have pl := (hS.blk 3 rfl).lt
  have ql := (hS.blk 4 rfl).lt
  have sl := (hS.blk 5 rfl).lt
  have tl := (hS.blk 6 rfl).lt
  have u0 := (hS.blk 0 rfl).cell 0
  have u1 := (hS.blk 0 rfl).cell 1
  have u2 := (hS.blk 0 rfl).cell 2
  have v0 := (hS.blk 1 rfl).cell 0
  have v1 := (hS.blk 1 rfl).cell 1
  have v2 := (hS.blk 1 rfl).cell 2
  simp only [List.getElem?_cons_zero, List.getElem?_cons_succ] at u0 u1 u2 v0 v1 v2
  have HS := Lib.hid hS
  clear hS G1 G2
  go_wp2_with fail
  refine wp_region_fr [(1, [0, 1, 2, 3, 4, 5, 6, 7, 8, 9, 10, 11, 12, 13, 14, 15, 16, 17, 18, 19, 20, 21, 22, 23, 24, 25, 26, 27, 28, 29, 30])] [] (by kernel_rfl) (by kernel_rfl) ?_
  simp only [theOps, nthOp, List.map_cons, List.map_nil, Array.getD_eq_getD_getElem?, List.getElem?_toArray, List.getElem?_cons_succ, List.getElem?_cons_zero, Option.getD_some]
  repeat ((first | refine wpSegs_soft ?_ | refine wpSegs_pure ?_); (repeat (first | go_big_quiet_step (fail) | quiet_step (fail))); refine wpQuiet_nil ?_)
  refine wpSegs_done ?_
  go_wp2_with fail
  clear u0 u1 u2 v0 v1 v2
  obtain ⟨_, vc, vt, hM⟩ := sep_mem HS.out.drew 2 rfl
  refine (peek_any _ b vc vt _ 0 hM).mono ?_
  rintro e w6 ⟨rfl, hf⟩
  rw [show peek (one (a1, a2) st2 tr2) 0 = ((a1, a2), true) from rfl]
  clear hM
  have hS := (HS.out.drew.fr0 hf).new 35 [.int .u64 a1, .int .u64 a2]
  clear HS p0 p1 q0 q1 s0 s1 t0 t1 pl ql sl tl hf
  have p0 := (hS.blk 4 rfl).cell 0
  have p1 := (hS.blk 4 rfl).cell 1
  have q0 := (hS.blk 5 rfl).cell 0
  have q1 := (hS.blk 5 rfl).cell 1
  have s0 := (hS.blk 6 rfl).cell 0
  have s1 := (hS.blk 6 rfl).cell 1
  have t0 := (hS.blk 7 rfl).cell 0
  have t1 := (hS.blk 7 rfl).cell 1
  simp only [List.getElem?_cons_zero, List.getElem?_cons_succ] at p0 p1 q0 q1 s0 s1 t0 t1
  have pl := (hS.blk 4 rfl).lt
  have ql := (hS.blk 5 rfl).lt
  have sl := (hS.blk 6 rfl).lt
  have tl := (hS.blk 7 rfl).lt
  have HS := Lib.hid hS
  clear hS
  obtain ⟨g1, st3, tr3, g2, g3⟩ := one_no (a1, a2) st2 tr2 2 (by decide) a1 o2 c1 c2 (by rintro ⟨_, e⟩; exact h2 e)
  have G1 := Lib.hid g1; have G2 := Lib.hid g2
  clear g1 g2 g3
  go_wp2_with fail
  refine ((HS.out.call 3 rfl (fun R hR => do_to hR (by show tr2.length ≤ 100000; rw [G4.out]; decide) ((2 : Nat) : Int) ⟨2, 0, a1, o2, c1, c2⟩ G1.out (one_err _ _ _ 2 (by decide) _ _ _ _) G2.out))).mono ?_
  rintro e w7 ⟨rfl, hS⟩
  unfold outV
  have hS := hS.new 41 [.int .u64 a1, .int .u64 a2, .bool false]
  clear HS p0 p1 q0 q1 s0 s1 t0 t1 pl ql sl tl G1 G2
  have p0 := (hS.blk 5 rfl).cell 0
  have p1 := (hS.blk 5 rfl).cell 1
  have q0 := (hS.blk 6 rfl).cell 0
  have q1 := (hS.blk 6 rfl).cell 1
  have s0 := (hS.blk 7 rfl).cell 0
  have s1 := (hS.blk 7 rfl).cell 1
  have t0 := (hS.blk 8 rfl).cell 0
  have t1 := (hS.blk 8 rfl).cell 1
  simp only [List.getElem?_cons_zero, List.getElem?_cons_succ] at p0 p1 q0 q1 s0 s1 t0 t1
  have pl := (hS.blk 5 rfl).lt
  have ql := (hS.blk 6 rfl).lt
  have sl := (hS.blk 7 rfl).lt
  have tl := (hS.blk 8 rfl).lt
  have HS := Lib.hid hS
  clear hS
  go_wp2_with fail
  obtain ⟨_, vc, vt, hM⟩ := sep_mem HS.out 4 rfl
  refine (peek_any _ b vc vt _ 0 hM).mono ?_
  rintro e w8 ⟨rfl, hf⟩
  rw [show peek (one (a1, a2) st3 tr3) 0 = ((a1, a2), true) from rfl]
  clear hM
  have hS := (HS.out.fr0 hf).new 35 [.int .u64 a1, .int .u64 a2]
  clear HS p0 p1 q0 q1 s0 s1 t0 t1 pl ql sl tl hf
  have p0 := (hS.blk 6 rfl).cell 0
  have p1 := (hS.blk 6 rfl).cell 1
  have q0 := (hS.blk 7 rfl).cell 0
  have q1 := (hS.blk 7 rfl).cell 1
  have s0 := (hS.blk 8 rfl).cell 0
  have s1 := (hS.blk 8 rfl).cell 1
  have t0 := (hS.blk 9 rfl).cell 0
  have t1 := (hS.blk 9 rfl).cell 1
  simp only [List.getElem?_cons_zero, List.getElem?_cons_succ] at p0 p1 q0 q1 s0 s1 t0 t1
  have pl := (hS.blk 6 rfl).lt
  have ql := (hS.blk 7 rfl).lt
  have sl := (hS.blk 8 rfl).lt
  have tl := (hS.blk 9 rfl).lt
  have u0 := (hS.blk 1 rfl).cell 0
  have u1 := (hS.blk 1 rfl).cell 1
  have u2 := (hS.blk 1 rfl).cell 2
  have v0 := (hS.blk 2 rfl).cell 0
  have v1 := (hS.blk 2 rfl).cell 1
  have n0 := (hS.blk 0 rfl).cell 0
  have n1 := (hS.blk 0 rfl).cell 1
  simp only [List.getElem?_cons_zero, List.getElem?_cons_succ] at u0 u1 u2 v0 v1 n0 n1
  have HF := Lib.hid hS.fr
  clear hS
  go_wp2_with fail
  refine wp_region_fr [(1, [0, 1, 2, 3, 4, 5, 6, 7, 8, 9, 10, 11, 12, 13, 14, 15, 16, 17, 18, 19, 20, 21, 22, 23, 24, 25, 26, 27, 28, 29, 30, 31, 32, 33, 34, 35])] [] (by kernel_rfl) (by kernel_rfl) ?_
  simp only [theOps, nthOp, List.map_cons, List.map_nil, Array.getD_eq_getD_getElem?, List.getElem?_toArray, List.getElem?_cons_succ, List.getElem?_cons_zero, Option.getD_some]
  repeat ((first | refine wpSegs_soft ?_ | refine wpSegs_pure ?_); (repeat (first | go_big_quiet_step (fail) | quiet_step (fail))); refine wpQuiet_nil ?_)
  refine wpSegs_done ?_
  go_wp2_with fail
  go_ret
  exact ⟨rfl, HF.out.drew⟩
set_option maxHeartbeats 8000000 in
set_option maxRecDepth 100000 in
theorem swaps_n2_eq (c1 c2 a2 b1 b2 : Int) (h1 : a2 ≠ c2) (w : World) :
    Calls Try.prog 4 #[.agg #[.int .u64 c1, .int .u64 c2], .agg #[.int .u64 c1, .int .u64 a2], .agg #[.int .u64 b1, .int .u64 b2], .agg #[.int .u64 c1, .int .u64 a2]] w fun e w' => e = .returned (.bool true) ∧ Fr [] w w' := by
  have hv1 : (a2 == c2) = false := by simpa using h1
  go_enter Try.func4, Try.ntmps4
  go_wp2_with fail
  refine (alive_any _).mono ?_
  rintro e w1 ⟨rfl, hf⟩
  have hS := ((((((Sep.nil (Fr.refl [] w)).new 35 [.int .u64 c1, .int .u64 c2]).new 35 [.int .u64 c1, .int .u64 a2]).new 35 [.int .u64 b1, .int .u64 b2]).new 35 [.int .u64 c1, .int .u64 a2])).fr0 hf
  simp only [World.size_alloc] at hS
  have p0 := (hS.blk 0 rfl).cell 0
  have p1 := (hS.blk 0 rfl).cell 1
  have q0 := (hS.blk 1 rfl).cell 0
  have q1 := (hS.blk 1 rfl).cell 1
  have s0 := (hS.blk 2 rfl).cell 0
  have s1 := (hS.blk 2 rfl).cell 1
  have t0 := (hS.blk 3 rfl).cell 0
  have t1 := (hS.blk 3 rfl).cell 1
  simp only [List.getElem?_cons_zero, List.getElem?_cons_succ] at p0 p1 q0 q1 s0 s1 t0 t1
  have pl := (hS.blk 0 rfl).lt
  have ql := (hS.blk 1 rfl).lt
  have sl := (hS.blk 2 rfl).lt
  have tl := (hS.blk 3 rfl).lt
  have HS := Lib.hid hS
  clear hS hf
  go_wp2_with fail
  refine (new_any w1 1 (by decide)).mono ?_
  rintro e w2 ⟨b, rfl, hF⟩
  have hS := HS.out.fresh hF
  clear hF HS p0 p1 q0 q1 s0 s1 t0 t1 pl ql sl tl
  have p0 := (hS.blk 1 rfl).cell 0
  have p1 := (hS.blk 1 rfl).cell 1
  have q0 := (hS.blk 2 rfl).cell 0
  have q1 := (hS.blk 2 rfl).cell 1
  have s0 := (hS.blk 3 rfl).cell 0
  have s1 := (hS.blk 3 rfl).cell 1
  have t0 := (hS.blk 4 rfl).cell 0
  have t1 := (hS.blk 4 rfl).cell 1
  simp only [List.getElem?_cons_zero, List.getElem?_cons_succ] at p0 p1 q0 q1 s0 s1 t0 t1
  have pl := (hS.blk 1 rfl).lt
  have ql := (hS.blk 2 rfl).lt
  have sl := (hS.blk 3 rfl).lt
  have tl := (hS.blk 4 rfl).lt
  have HS := Lib.hid hS
  clear hS
  go_wp2_with fail
  refine (set_any HS.out 0 (c1, c2)).mono ?_
  rintro e w3 ⟨rfl, hS⟩
  rw [one_put] at hS
  clear HS p0 p1 q0 q1 s0 s1 t0 t1 pl ql sl tl
  have p0 := (hS.blk 1 rfl).cell 0
  have p1 := (hS.blk 1 rfl).cell 1
  have q0 := (hS.blk 2 rfl).cell 0
  have q1 := (hS.blk 2 rfl).cell 1
  have s0 := (hS.blk 3 rfl).cell 0
  have s1 := (hS.blk 3 rfl).cell 1
  have t0 := (hS.blk 4 rfl).cell 0
  have t1 := (hS.blk 4 rfl).cell 1
  simp only [List.getElem?_cons_zero, List.getElem?_cons_succ] at p0 p1 q0 q1 s0 s1 t0 t1
  have pl := (hS.blk 1 rfl).lt
  have ql := (hS.blk 2 rfl).lt
  have sl := (hS.blk 3 rfl).lt
  have tl := (hS.blk 4 rfl).lt
  have HS := Lib.hid hS
  clear hS
  obtain ⟨f1, st1, tr1, f2, f3⟩ := one_yes (c1, c2) [0, 0, 0, 0, 0, 0, 0, 0] [] 0 (by decide) c1 a2
  have F1 := Lib.hid f1; have F2 := Lib.hid f2
  have f4 : tr1.length = 1 := f3
  have F4 := Lib.hid f4
  clear f1 f2 f3 f4
  go_wp2_with fail
  refine (do_to HS.out (by simp [one]) ((0 : Nat) : Int) ⟨2, 0, c1, c2, c1, a2⟩ F1.out (one_err _ _ _ 0 (by decide) _ _ _ _) F2.out).mono ?_
  rintro e w4 ⟨rfl, hS⟩
  unfold outV
  have hS := hS.new 41 [.int .u64 c1, .int .u64 c2, .bool true]
  clear HS p0 p1 q0 q1 s0 s1 t0 t1 pl ql sl tl
  have p0 := (hS.blk 2 rfl).cell 0
  have p1 := (hS.blk 2 rfl).cell 1
  have q0 := (hS.blk 3 rfl).cell 0
  have q1 := (hS.blk 3 rfl).cell 1
  have s0 := (hS.blk 4 rfl).cell 0
  have s1 := (hS.blk 4 rfl).cell 1
  have t0 := (hS.blk 5 rfl).cell 0
  have t1 := (hS.blk 5 rfl).cell 1
  simp only [List.getElem?_cons_zero, List.getElem?_cons_succ] at p0 p1 q0 q1 s0 s1 t0 t1
  have pl := (hS.blk 2 rfl).lt
  have ql := (hS.blk 3 rfl).lt
  have sl := (hS.blk 4 rfl).lt
  have tl := (hS.blk 5 rfl).lt
  have HS := Lib.hid hS
  clear hS F1 F2
  obtain ⟨g1, st2, tr2, g2, g3⟩ := one_no (c1, a2) st1 tr1 1 (by decide) c1 c2 b1 b2 (by rintro ⟨_, e⟩; exact h1 e)
  have G1 := Lib.hid g1; have G2 := Lib.hid g2
  have g4 : tr2.length = 2 := by rw [g3, F4.out]
  have G4 := Lib.hid g4
  clear g1 g2 g3 g4
  go_wp2_with fail
  refine ((HS.out.call 1 rfl (fun R hR => do_to hR (by show tr1.length ≤ 100000; rw [F4.out]; decide) ((1 : Nat) : Int) ⟨2, 0, c1, c2, b1, b2⟩ G1.out (one_err _ _ _ 1 (by decide) _ _ _ _) G2.out))).mono ?_
  rintro e w5 ⟨rfl, hS⟩
  unfold outV
  have hS := hS.new 41 [.int .u64 c1, .int .u64 a2, .bool false]
  clear HS p0 p1 q0 q1 s0 s1 t0 t1 pl ql sl tl
  have p0 := (hS.blk 3 rfl).cell 0
  have p1 := (hS.blk 3 rfl).cell 1
  have q0 := (hS.blk 4 rfl).cell 0
  have q1 := (hS.blk 4 rfl).cell 1
  have s0 := (hS.blk 5 rfl).cell 0
  have s1 := (hS.blk 5 rfl).cell 1
  have t0 := (hS.blk 6 rfl).cell 0
  have t1 := (hS.blk 6 rfl).cell 1
  simp only [List.getElem?_cons_zero, List.getElem?_cons_succ] at p0 p1 q0 q1 s0 s1 t0 t1
  have pl := (hS.blk 3 rfl).lt
  have ql := (hS.blk 4 rfl).lt
  have sl := (hS.blk 5 rfl).lt
  have tl := (hS.blk 6 rfl).lt
  have u0 := (hS.blk 0 rfl).cell 0
  have u1 := (hS.blk 0 rfl).cell 1
  have u2 := (hS.blk 0 rfl).cell 2
  have v0 := (hS.blk 1 rfl).cell 0
  have v1 := (hS.blk 1 rfl).cell 1
  have v2 := (hS.blk 1 rfl).cell 2
  simp only [List.getElem?_cons_zero, List.getElem?_cons_succ] at u0 u1 u2 v0 v1 v2
  have HS := Lib.hid hS
  clear hS G1 G2
  go_wp2_with fail
  refine wp_region_fr [(1, [0, 1, 2, 3, 4, 5, 6, 7, 8, 9, 10, 11, 12, 13, 14, 15, 16, 17, 18, 19, 20, 21, 22, 23, 24, 25, 26, 27, 28, 29, 30])] [] (by kernel_rfl) (by kernel_rfl) ?_
  simp only [theOps, nthOp, List.map_cons, List.map_nil, Array.getD_eq_getD_getElem?, List.getElem?_toArray, List.getElem?_cons_succ, List.getElem?_cons_zero, Option.getD_some]
  repeat ((first | refine wpSegs_soft ?_ | refine wpSegs_pure ?_); (repeat (first | go_big_quiet_step (fail) | quiet_step (fail))); refine wpQuiet_nil ?_)
  refine wpSegs_done ?_
  go_wp2_with fail
  clear u0 u1 u2 v0 v1 v2
  obtain ⟨_, vc, vt, hM⟩ := sep_mem HS.out.drew 2 rfl
  refine (peek_any _ b vc vt _ 0 hM).mono ?_
  rintro e w6 ⟨rfl, hf⟩
  rw [show peek (one (c1, a2) st2 tr2) 0 = ((c1, a2), true) from rfl]
  clear hM
  have hS := (HS.out.drew.fr0 hf).new 35 [.int .u64 c1, .int .u64 a2]
  clear HS p0 p1 q0 q1 s0 s1 t0 t1 pl ql sl tl hf
  have p0 := (hS.blk 4 rfl).cell 0
  have p1 := (hS.blk 4 rfl).cell 1
  have q0 := (hS.blk 5 rfl).cell 0
  have q1 := (hS.blk 5 rfl).cell 1
  have s0 := (hS.blk 6 rfl).cell 0
  have s1 := (hS.blk 6 rfl).cell 1
  have t0 := (hS.blk 7 rfl).cell 0
  have t1 := (hS.blk 7 rfl).cell 1
  simp only [List.getElem?_cons_zero, List.getElem?_cons_succ] at p0 p1 q0 q1 s0 s1 t0 t1
  have pl := (hS.blk 4 rfl).lt
  have ql := (hS.blk 5 rfl).lt
  have sl := (hS.blk 6 rfl).lt
  have tl := (hS.blk 7 rfl).lt
  have HS := Lib.hid hS
  clear hS
  obtain ⟨g1, st3, tr3, g2, g3⟩ := one_yes (c1, a2) st2 tr2 2 (by decide) c1 c2
  have G1 := Lib.hid g1; have G2 := Lib.hid g2
  clear g1 g2 g3
  go_wp2_with fail
  refine ((HS.out.call 3 rfl (fun R hR => do_to hR (by show tr2.length ≤ 100000; rw [G4.out]; decide) ((2 : Nat) : Int) ⟨2, 0, c1, a2, c1, c2⟩ G1.out (one_err _ _ _ 2 (by decide) _ _ _ _) G2.out))).mono ?_
  rintro e w7 ⟨rfl, hS⟩
  unfold outV
  have hS := hS.new 41 [.int .u64 c1, .int .u64 a2, .bool true]
  clear HS p0 p1 q0 q1 s0 s1 t0 t1 pl ql sl tl G1 G2
  have p0 := (hS.blk 5 rfl).cell 0
  have p1 := (hS.blk 5 rfl).cell 1
  have q0 := (hS.blk 6 rfl).cell 0
  have q1 := (hS.blk 6 rfl).cell 1
  have s0 := (hS.blk 7 rfl).cell 0
  have s1 := (hS.blk 7 rfl).cell 1
  have t0 := (hS.blk 8 rfl).cell 0
  have t1 := (hS.blk 8 rfl).cell 1
  simp only [List.getElem?_cons_zero, List.getElem?_cons_succ] at p0 p1 q0 q1 s0 s1 t0 t1
  have pl := (hS.blk 5 rfl).lt
  have ql := (hS.blk 6 rfl).lt
  have sl := (hS.blk 7 rfl).lt
  have tl := (hS.blk 8 rfl).lt
  have HS := Lib.hid hS
  clear hS
  go_wp2_with fail
  obtain ⟨_, vc, vt, hM⟩ := sep_mem HS.out 4 rfl
  refine (peek_any _ b vc vt _ 0 hM).mono ?_
  rintro e w8 ⟨rfl, hf⟩
  rw [show peek (one (c1, c2) st3 tr3) 0 = ((c1, c2), true) from rfl]
  clear hM
  have hS := (HS.out.fr0 hf).new 35 [.int .u64 c1, .int .u64 c2]
  clear HS p0 p1 q0 q1 s0 s1 t0 t1 pl ql sl tl hf
  have p0 := (hS.blk 6 rfl).cell 0
  have p1 := (hS.blk 6 rfl).cell 1
  have q0 := (hS.blk 7 rfl).cell 0
  have q1 := (hS.blk 7 rfl).cell 1
  have s0 := (hS.blk 8 rfl).cell 0
  have s1 := (hS.blk 8 rfl).cell 1
  have t0 := (hS.blk 9 rfl).cell 0
  have t1 := (hS.blk 9 rfl).cell 1
  simp only [List.getElem?_cons_zero, List.getElem?_cons_succ] at p0 p1 q0 q1 s0 s1 t0 t1
  have pl := (hS.blk 6 rfl).lt
  have ql := (hS.blk 7 rfl).lt
  have sl := (hS.blk 8 rfl).lt
  have tl := (hS.blk 9 rfl).lt
  have u0 := (hS.blk 1 rfl).cell 0
  have u1 := (hS.blk 1 rfl).cell 1
  have u2 := (hS.blk 1 rfl).cell 2
  have v0 := (hS.blk 2 rfl).cell 0
  have v1 := (hS.blk 2 rfl).cell 1
  have n0 := (hS.blk 0 rfl).cell 0
  have n1 := (hS.blk 0 rfl).cell 1
  simp only [List.getElem?_cons_zero, List.getElem?_cons_succ] at u0 u1 u2 v0 v1 n0 n1
  have HF := Lib.hid hS.fr
  clear hS
  go_wp2_with fail
  refine wp_region_fr [(1, [0, 1, 2, 3, 4, 5, 6, 7, 8, 9, 10, 11, 12, 13, 14, 15, 16, 17, 18, 19, 20, 21, 22, 23, 24, 25, 26, 27, 28, 29, 30, 31, 32, 33, 34, 35])] [] (by kernel_rfl) (by kernel_rfl) ?_
  simp only [theOps, nthOp, List.map_cons, List.map_nil, Array.getD_eq_getD_getElem?, List.getElem?_toArray, List.getElem?_cons_succ, List.getElem?_cons_zero, Option.getD_some]
  repeat ((first | refine wpSegs_soft ?_ | refine wpSegs_pure ?_); (repeat (first | go_big_quiet_step (fail) | quiet_step (fail))); refine wpQuiet_nil ?_)
  refine wpSegs_done ?_
  go_wp2_with fail
  go_ret
  exact ⟨rfl, HF.out.drew⟩
set_option maxHeartbeats 8000000 in
set_option maxRecDepth 100000 in
theorem swaps_n2_n1 (c1 c2 a2 b1 b2 o1 o2 : Int) (h1 : a2 ≠ c2) (h2 : c1 ≠ o1) (w : World) :
    Calls Try.prog 4 #[.agg #[.int .u64 c1, .int .u64 c2], .agg #[.int .u64 c1, .int .u64 a2], .agg #[.int .u64 b1, .int .u64 b2], .agg #[.int .u64 o1, .int .u64 o2]] w fun e w' => e = .returned (.bool true) ∧ Fr [] w w' := by
  have hv1 : (a2 == c2) = false := by simpa using h1
  have hv2 : (c1 == o1) = false := by simpa using h2
  go_enter Try.func4, Try.ntmps4
  go_wp2_with fail
  refine (alive_any _).mono ?_
  rintro e w1 ⟨rfl, hf⟩
  have hS := ((((((Sep.nil (Fr.refl [] w)).new 35 [.int .u64 c1, .int .u64 c2]).new 35 [.int .u64 c1, .int .u64 a2]).new 35 [.int .u64 b1, .int .u64 b2]).new 35 [.int .u64 o1, .int .u64 o2])).fr0 hf
  simp only [World.size_alloc] at hS
  have p0 := (hS.blk 0 rfl).cell 0
  have p1 := (hS.blk 0 rfl).cell 1
  have q0 := (hS.blk 1 rfl).cell 0
  have q1 := (hS.blk 1 rfl).cell 1
  have s0 := (hS.blk 2 rfl).cell 0
  have s1 := (hS.blk 2 rfl).cell 1
  have t0 := (hS.blk 3 rfl).cell 0
  have t1 := (hS.blk 3 rfl).cell 1
  simp only [List.getElem?_cons_zero, List.getElem?_cons_succ] at p0 p1 q0 q1 s0 s1 t0 t1
  have pl := (hS.blk 0 rfl).lt
  have ql := (hS.blk 1 rfl).lt
  have sl := (hS.blk 2 rfl).lt
  have tl := (hS.blk 3 rfl).lt
  have HS := Lib.hid hS
  clear hS hf
  go_wp2_with fail
  refine (new_any w1 1 (by decide)).mono ?_
  rintro e w2 ⟨b, rfl, hF⟩
  have hS := HS.out.fresh hF
  clear hF HS p0 p1 q0 q1 s0 s1 t0 t1 pl ql sl tl
  have p0 := (hS.blk 1 rfl).cell 0
  have p1 := (hS.blk 1 rfl).cell 1
  have q0 := (hS.blk 2 rfl).cell 0
  have q1 := (hS.blk 2 rfl).cell 1
  have s0 := (hS.blk 3 rfl).cell 0
  have s1 := (hS.blk 3 rfl).cell 1
  have t0 := (hS.blk 4 rfl).cell 0
  have t1 := (hS.blk 4 rfl).cell 1
  simp only [List.getElem?_cons_zero, List.getElem?_cons_succ] at p0 p1 q0 q1 s0 s1 t0 t1
  have pl := (hS.blk 1 rfl).lt
  have ql := (hS.blk 2 rfl).lt
  have sl := (hS.blk 3 rfl).lt
  have tl := (hS.blk 4 rfl).lt
  have HS := Lib.hid hS
  clear hS
  go_wp2_with fail
  refine (set_any HS.out 0 (c1, c2)).mono ?_
  rintro e w3 ⟨rfl, hS⟩
  rw [one_put] at hS
  clear HS p0 p1 q0 q1 s0 s1 t0 t1 pl ql sl tl
  have p0 := (hS.blk 1 rfl).cell 0
  have p1 := (hS.blk 1 rfl).cell 1
  have q0 := (hS.blk 2 rfl).cell 0
  have q1 := (hS.blk 2 rfl).cell 1
  have s0 := (hS.blk 3 rfl).cell 0
  have s1 := (hS.blk 3 rfl).cell 1
  have t0 := (hS.blk 4 rfl).cell 0
  have t1 := (hS.blk 4 rfl).cell 1
  simp only [List.getElem?_cons_zero, List.getElem?_cons_succ] at p0 p1 q0 q1 s0 s1 t0 t1
  have pl := (hS.blk 1 rfl).lt
  have ql := (hS.blk 2 rfl).lt
  have sl := (hS.blk 3 rfl).lt
  have tl := (hS.blk 4 rfl).lt
  have HS := Lib.hid hS
  clear hS
  obtain ⟨f1, st1, tr1, f2, f3⟩ := one_yes (c1, c2) [0, 0, 0, 0, 0, 0, 0, 0] [] 0 (by decide) c1 a2
  have F1 := Lib.hid f1; have F2 := Lib.hid f2
  have f4 : tr1.length = 1 := f3
  have F4 := Lib.hid f4
  clear f1 f2 f3 f4
  go_wp2_with fail
  refine (do_to HS.out (by simp [one]) ((0 : Nat) : Int) ⟨2, 0, c1, c2, c1, a2⟩ F1.out (one_err _ _ _ 0 (by decide) _ _ _ _) F2.out).mono ?_
  rintro e w4 ⟨rfl, hS⟩
  unfold outV
  have hS := hS.new 41 [.int .u64 c1, .int .u64 c2, .bool true]
  clear HS p0 p1 q0 q1 s0 s1 t0 t1 pl ql sl tl
  have p0 := (hS.blk 2 rfl).cell 0
  have p1 := (hS.blk 2 rfl).cell 1
  have q0 := (hS.blk 3 rfl).cell 0
  have q1 := (hS.blk 3 rfl).cell 1
  have s0 := (hS.blk 4 rfl).cell 0
  have s1 := (hS.blk 4 rfl).cell 1
  have t0 := (hS.blk 5 rfl).cell 0
  have t1 := (hS.blk 5 rfl).cell 1
  simp only [List.getElem?_cons_zero, List.getElem?_cons_succ] at p0 p1 q0 q1 s0 s1 t0 t1
  have pl := (hS.blk 2 rfl).lt
  have ql := (hS.blk 3 rfl).lt
  have sl := (hS.blk 4 rfl).lt
  have tl := (hS.blk 5 rfl).lt
  have HS := Lib.hid hS
  clear hS F1 F2
  obtain ⟨g1, st2, tr2, g2, g3⟩ := one_no (c1, a2) st1 tr1 1 (by decide) c1 c2 b1 b2 (by rintro ⟨_, e⟩; exact h1 e)
  have G1 := Lib.hid g1; have G2 := Lib.hid g2
  have g4 : tr2.length = 2 := by rw [g3, F4.out]
  have G4 := Lib.hid g4
  clear g1 g2 g3 g4
  go_wp2_with fail
  refine ((HS.out.call 1 rfl (fun R hR => do_to hR (by show tr1.length ≤ 100000; rw [F4.out]; decide) ((1 : Nat) : Int) ⟨2, 0, c1, c2, b1, b2⟩ G1.out (one_err _ _ _ 1 (by decide) _ _ _ _) G2.out))).mono ?_
  rintro e w5 ⟨rfl, hS⟩
  unfold outV
  have hS := hS.new 41 [.int .u64 c1, .int .u64 a2, .bool false]
  clear HS p0 p1 q0 q1 s0 s1 t0 t1 pl ql sl tl
  have p0 := (hS.blk 3 rfl).cell 0
  have p1 := (hS.blk 3 rfl).cell 1
  have q0 := (hS.blk 4 rfl).cell 0
  have q1 := (hS.blk 4 rfl).cell 1
  have s0 := (hS.blk 5 rfl).cell 0
  have s1 := (hS.blk 5 rfl).cell 1
  have t0 := (hS.blk 6 rfl).cell 0
  have t1 := (hS.blk 6 rfl).cell 1
  simp only [List.getElem?_cons_zero, List.getElem?_cons_succ] at p0 p1 q0 q1 s0 s1 t0 t1
  have pl := (hS.blk 3 rfl).lt
  have ql := (hS.blk 4 rfl).lt
  have sl := (hS.blk 5 rfl).lt
  have tl := (hS.blk 6 rfl).lt
  have u0 := (hS.blk 0 rfl).cell 0
  have u1 := (hS.blk 0 rfl).cell 1
  have u2 := (hS.blk 0 rfl).cell 2
  have v0 := (hS.blk 1 rfl).cell 0
  have v1 := (hS.blk 1 rfl).cell 1
  have v2 := (hS.blk 1 rfl).cell 2
  simp only [List.getElem?_cons_zero, List.getElem?_cons_succ] at u0 u1 u2 v0 v1 v2
  have HS := Lib.hid hS
  clear hS G1 G2
  go_wp2_with fail
  refine wp_region_fr [(1, [0, 1, 2, 3, 4, 5, 6, 7, 8, 9, 10, 11, 12, 13, 14, 15, 16, 17, 18, 19, 20, 21, 22, 23, 24, 25, 26, 27, 28, 29, 30])] [] (by kernel_rfl) (by kernel_rfl) ?_
  simp only [theOps, nthOp, List.map_cons, List.map_nil, Array.getD_eq_getD_getElem?, List.getElem?_toArray, List.getElem?_cons_succ, List.getElem?_cons_zero, Option.getD_some]
  repeat ((first | refine wpSegs_soft ?_ | refine wpSegs_pure ?_); (repeat (first | go_big_quiet_step (fail) | quiet_step (fail))); refine wpQuiet_nil ?_)
  refine wpSegs_done ?_
  go_wp2_with fail
  clear u0 u1 u2 v0 v1 v2
  obtain ⟨_, vc, vt, hM⟩ := sep_mem HS.out.drew 2 rfl
  refine (peek_any _ b vc vt _ 0 hM).mono ?_
  rintro e w6 ⟨rfl, hf⟩
  rw [show peek (one (c1, a2) st2 tr2) 0 = ((c1, a2), true) from rfl]
  clear hM
  have hS := (HS.out.drew.fr0 hf).new 35 [.int .u64 c1, .int .u64 a2]
  clear HS p0 p1 q0 q1 s0 s1 t0 t1 pl ql sl tl hf
  have p0 := (hS.blk 4 rfl).cell 0
  have p1 := (hS.blk 4 rfl).cell 1
  have q0 := (hS.blk 5 rfl).cell 0
  have q1 := (hS.blk 5 rfl).cell 1
  have s0 := (hS.blk 6 rfl).cell 0
  have s1 := (hS.blk 6 rfl).cell 1
  have t0 := (hS.blk 7 rfl).cell 0
  have t1 := (hS.blk 7 rfl).cell 1
  simp only [List.getElem?_cons_zero, List.getElem?_cons_succ] at p0 p1 q0 q1 s0 s1 t0 t1
  have pl := (hS.blk 4 rfl).lt
  have ql := (hS.blk 5 rfl).lt
  have sl := (hS.blk 6 rfl).lt
  have tl := (hS.blk 7 rfl).lt
  have HS := Lib.hid hS
  clear hS
  obtain ⟨g1, st3, tr3, g2, g3⟩ := one_no (c1, a2) st2 tr2 2 (by decide) o1 o2 c1 c2 (by rintro ⟨e, _⟩; exact h2 e)
  have G1 := Lib.hid g1; have G2 := Lib.hid g2
  clear g1 g2 g3
  go_wp2_with fail
  refine ((HS.out.call 3 rfl (fun R hR => do_to hR (by show tr2.length ≤ 100000; rw [G4.out]; decide) ((2 : Nat) : Int) ⟨2, 0, o1, o2, c1, c2⟩ G1.out (one_err _ _ _ 2 (by decide) _ _ _ _) G2.out))).mono ?_
  rintro e w7 ⟨rfl, hS⟩
  unfold outV
  have hS := hS.new 41 [.int .u64 c1, .int .u64 a2, .bool false]
  clear HS p0 p1 q0 q1 s0 s1 t0 t1 pl ql sl tl G1 G2
  have p0 := (hS.blk 5 rfl).cell 0
  have p1 := (hS.blk 5 rfl).cell 1
  have q0 := (hS.blk 6 rfl).cell 0
  have q1 := (hS.blk 6 rfl).cell 1
  have s0 := (hS.blk 7 rfl).cell 0
  have s1 := (hS.blk 7 rfl).cell 1
  have t0 := (hS.blk 8 rfl).cell 0
  have t1 := (hS.blk 8 rfl).cell 1
  simp only [List.getElem?_cons_zero, List.getElem?_cons_succ] at p0 p1 q0 q1 s0 s1 t0 t1
  have pl := (hS.blk 5 rfl).lt
  have ql := (hS.blk 6 rfl).lt
  have sl := (hS.blk 7 rfl).lt
  have tl := (hS.blk 8 rfl).lt
  have HS := Lib.hid hS
  clear hS
  go_wp2_with fail
  obtain ⟨_, vc, vt, hM⟩ := sep_mem HS.out 4 rfl
  refine (peek_any _ b vc vt _ 0 hM).mono ?_
  rintro e w8 ⟨rfl, hf⟩
  rw [show peek (one (c1, a2) st3 tr3) 0 = ((c1, a2), true) from rfl]
  clear hM
  have hS := (HS.out.fr0 hf).new 35 [.int .u64 c1, .int .u64 a2]
  clear HS p0 p1 q0 q1 s0 s1 t0 t1 pl ql sl tl hf
  have p0 := (hS.blk 6 rfl).cell 0
  have p1 := (hS.blk 6 rfl).cell 1
  have q0 := (hS.blk 7 rfl).cell 0
  have q1 := (hS.blk 7 rfl).cell 1
  have s0 := (hS.blk 8 rfl).cell 0
  have s1 := (hS.blk 8 rfl).cell 1
  have t0 := (hS.blk 9 rfl).cell 0
  have t1 := (hS.blk 9 rfl).cell 1
  simp only [List.getElem?_cons_zero, List.getElem?_cons_succ] at p0 p1 q0 q1 s0 s1 t0 t1
  have pl := (hS.blk 6 rfl).lt
  have ql := (hS.blk 7 rfl).lt
  have sl := (hS.blk 8 rfl).lt
  have tl := (hS.blk 9 rfl).lt
  have u0 := (hS.blk 1 rfl).cell 0
  have u1 := (hS.blk 1 rfl).cell 1
  have u2 := (hS.blk 1 rfl).cell 2
  have v0 := (hS.blk 2 rfl).cell 0
  have v1 := (hS.blk 2 rfl).cell 1
  have n0 := (hS.blk 0 rfl).cell 0
  have n1 := (hS.blk 0 rfl).cell 1
  simp only [List.getElem?_cons_zero, List.getElem?_cons_succ] at u0 u1 u2 v0 v1 n0 n1
  have HF := Lib.hid hS.fr
  clear hS
  go_wp2_with fail
  refine wp_region_fr [(1, [0, 1, 2, 3, 4, 5, 6, 7, 8, 9, 10, 11, 12, 13, 14, 15, 16, 17, 18, 19, 20, 21, 22, 23, 24, 25, 26, 27, 28, 29, 30, 31, 32, 33, 34, 35])] [] (by kernel_rfl) (by kernel_rfl) ?_
  simp only [theOps, nthOp, List.map_cons, List.map_nil, Array.getD_eq_getD_getElem?, List.getElem?_toArray, List.getElem?_cons_succ, List.getElem?_cons_zero, Option.getD_some]
  repeat ((first | refine wpSegs_soft ?_ | refine wpSegs_pure ?_); (repeat (first | go_big_quiet_step (fail) | quiet_step (fail))); refine wpQuiet_nil ?_)
  refine wpSegs_done ?_
  go_wp2_with fail
  go_ret
  exact ⟨rfl, HF.out.drew⟩
set_option maxHeartbeats 8000000 in
set_option maxRecDepth 100000 in
theorem swaps_n2_n2 (c1 c2 a2 b1 b2 o2 : Int) (h1 : a2 ≠ c2) (h2 : a2 ≠ o2) (w : World) :
    Calls Try.prog 4 #[.agg #[.int .u64 c1, .int .u64 c2], .agg #[.int .u64 c1, .int .u64 a2], .agg #[.int .u64 b1, .int .u64 b2], .agg #[.int .u64 c1, .int .u64 o2]] w fun e w' => e = .returned (.bool true) ∧ Fr [] w w' := by
  have hv1 : (a2 == c2) = false := by simpa using h1
  have hv2 : (a2 == o2) = false := by simpa using h2
  go_enter Try.func4, Try.ntmps4
  go_wp2_with fail
  refine (alive_any _).mono ?_
  rintro e w1 ⟨rfl, hf⟩
  have hS := ((((((Sep.nil (Fr.refl [] w)).new 35 [.int .u64 c1, .int .u64 c2]).new 35 [.int .u64 c1, .int .u64 a2]).new 35 [.int .u64 b1, .int .u64 b2]).new 35 [.int .u64 c1, .int .u64 o2])).fr0 hf
  simp only [World.size_alloc] at hS
  have p0 := (hS.blk 0 rfl).cell 0
  have p1 := (hS.blk 0 rfl).cell 1
  have q0 := (hS.blk 1 rfl).cell 0
  have q1 := (hS.blk 1 rfl).cell 1
  have s0 := (hS.blk 2 rfl).cell 0
  have s1 := (hS.blk 2 rfl).cell 1
  have t0 := (hS.blk 3 rfl).cell 0
  have t1 := (hS.blk 3 rfl).cell 1
  simp only [List.getElem?_cons_zero, List.getElem?_cons_succ] at p0 p1 q0 q1 s0 s1 t0 t1
  have pl := (hS.blk 0 rfl).lt
  have ql := (hS.blk 1 rfl).lt
  have sl := (hS.blk 2 rfl).lt
  have tl := (hS.blk 3 rfl).lt
  have HS := Lib.hid hS
  clear hS hf
  go_wp2_with fail
  refine (new_any w1 1 (by decide)).mono ?_
  rintro e w2 ⟨b, rfl, hF⟩
  have hS := HS.out.fresh hF
  clear hF HS p0 p1 q0 q1 s0 s1 t0 t1 pl ql sl tl
  have p0 := (hS.blk 1 rfl).cell 0
  have p1 := (hS.blk 1 rfl).cell 1
  have q0 := (hS.blk 2 rfl).cell 0
  have q1 := (hS.blk 2 rfl).cell 1
  have s0 := (hS.blk 3 rfl).cell 0
  have s1 := (hS.blk 3 rfl).cell 1
  have t0 := (hS.blk 4 rfl).cell 0
  have t1 := (hS.blk 4 rfl).cell 1
  simp only [List.getElem?_cons_zero, List.getElem?_cons_succ] at p0 p1 q0 q1 s0 s1 t0 t1
  have pl := (hS.blk 1 rfl).lt
  have ql := (hS.blk 2 rfl).lt
  have sl := (hS.blk 3 rfl).lt
  have tl := (hS.blk 4 rfl).lt
  have HS := Lib.hid hS
  clear hS
  go_wp2_with fail
  refine (set_any HS.out 0 (c1, c2)).mono ?_
  rintro e w3 ⟨rfl, hS⟩
  rw [one_put] at hS
  clear HS p0 p1 q0 q1 s0 s1 t0 t1 pl ql sl tl
  have p0 := (hS.blk 1 rfl).cell 0
  have p1 := (hS.blk 1 rfl).cell 1
  have q0 := (hS.blk 2 rfl).cell 0
  have q1 := (hS.blk 2 rfl).cell 1
  have s0 := (hS.blk 3 rfl).cell 0
  have s1 := (hS.blk 3 rfl).cell 1
  have t0 := (hS.blk 4 rfl).cell 0
  have t1 := (hS.blk 4 rfl).cell 1
  simp only [List.getElem?_cons_zero, List.getElem?_cons_succ] at p0 p1 q0 q1 s0 s1 t0 t1
  have pl := (hS.blk 1 rfl).lt
  have ql := (hS.blk 2 rfl).lt
  have sl := (hS.blk 3 rfl).lt
  have tl := (hS.blk 4 rfl).lt
  have HS := Lib.hid hS
  clear hS
  obtain ⟨f1, st1, tr1, f2, f3⟩ := one_yes (c1, c2) [0, 0, 0, 0, 0, 0, 0, 0] [] 0 (by decide) c1 a2
  have F1 := Lib.hid f1; have F2 := Lib.hid f2
  have f4 : tr1.length = 1 := f3
  have F4 := Lib.hid f4
  clear f1 f2 f3 f4
  go_wp2_with fail
  refine (do_to HS.out (by simp [one]) ((0 : Nat) : Int) ⟨2, 0, c1, c2, c1, a2⟩ F1.out (one_err _ _ _ 0 (by decide) _ _ _ _) F2.out).mono ?_
  rintro e w4 ⟨rfl, hS⟩
  unfold outV
  have hS := hS.new 41 [.int .u64 c1, .int .u64 c2, .bool true]
  clear HS p0 p1 q0 q1 s0 s1 t0 t1 pl ql sl tl
  have p0 := (hS.blk 2 rfl).cell 0
  have p1 := (hS.blk 2 rfl).cell 1
  have q0 := (hS.blk 3 rfl).cell 0
  have q1 := (hS.blk 3 rfl).cell 1
  have s0 := (hS.blk 4 rfl).cell 0
  have s1 := (hS.blk 4 rfl).cell 1
  have t0 := (hS.blk 5 rfl).cell 0
  have t1 := (hS.blk 5 rfl).cell 1
  simp only [List.getElem?_cons_zero, List.getElem?_cons_succ] at p0 p1 q0 q1 s0 s1 t0 t1
  have pl := (hS.blk 2 rfl).lt
  have ql := (hS.blk 3 rfl).lt
  have sl := (hS.blk 4 rfl).lt
  have tl := (hS.blk 5 rfl).lt
  have HS := Lib.hid hS
  clear hS F1 F2
  obtain ⟨g1, st2, tr2, g2, g3⟩ := one_no (c1, a2) st1 tr1 1 (by decide) c1 c2 b1 b2 (by rintro ⟨_, e⟩; exact h1 e)
  have G1 := Lib.hid g1; have G2 := Lib.hid g2
  have g4 : tr2.length = 2 := by rw [g3, F4.out]
  have G4 := Lib.hid g4
  clear g1 g2 g3 g4
  go_wp2_with fail
  refine ((HS.out.call 1 rfl (fun R hR => do_to hR (by show tr1.length ≤ 100000; rw [F4.out]; decide) ((1 : Nat) : Int) ⟨2, 0, c1, c2, b1, b2⟩ G1.out (one_err _ _ _ 1 (by decide) _ _ _ _) G2.out))).mono ?_
  rintro e w5 ⟨rfl, hS⟩
  unfold outV
  have hS := hS.new 41 [.int .u64 c1, .int .u64 a2, .bool false]
  clear HS p0 p1 q0 q1 s0 s1 t0 t1 pl ql sl tl
  have p0 := (hS.blk 3 rfl).cell 0
  have p1 := (hS.blk 3 rfl).cell 1
  have q0 := (hS.blk 4 rfl).cell 0
  have q1 := (hS.blk 4 rfl).cell 1
  have s0 := (hS.blk 5 rfl).cell 0
  have s1 := (hS.blk 5 rfl).cell 1
  have t0 := (hS.blk 6 rfl).cell 0
  have t1 := (hS.blk 6 rfl).cell 1
  simp only [List.getElem?_cons_zero, List.getElem?_cons_succ] at p0 p1 q0 q1 s0 s1 t0 t1
  have pl := (hS.blk 3 rfl).lt
  have ql := (hS.blk 4 rfl).lt
  have sl := (hS.blk 5 rfl).lt
  have tl := (hS.blk 6 rfl).lt
  have u0 := (hS.blk 0 rfl).cell 0
  have u1 := (hS.blk 0 rfl).cell 1
  have u2 := (hS.blk 0 rfl).cell 2
  have v0 := (hS.blk 1 rfl).cell 0
  have v1 := (hS.blk 1 rfl).cell 1
  have v2 := (hS.blk 1 rfl).cell 2
  simp only [List.getElem?_cons_zero, List.getElem?_cons_succ] at u0 u1 u2 v0 v1 v2
  have HS := Lib.hid hS
  clear hS G1 G2
  go_wp2_with fail
  refine wp_region_fr [(1, [0, 1, 2, 3, 4, 5, 6, 7, 8, 9, 10, 11, 12, 13, 14, 15, 16, 17, 18, 19, 20, 21, 22, 23, 24, 25, 26, 27, 28, 29, 30])] [] (by kernel_rfl) (by kernel_rfl) ?_
  simp only [theOps, nthOp, List.map_cons, List.map_nil, Array.getD_eq_getD_getElem?, List.getElem?_toArray, List.getElem?_cons_succ, List.getElem?_cons_zero, Option.getD_some]
  repeat ((first | refine wpSegs_soft ?_ | refine wpSegs_pure ?_); (repeat (first | go_big_quiet_step (fail) | quiet_step (fail))); refine wpQuiet_nil ?_)
  refine wpSegs_done ?_
  go_wp2_with fail
  clear u0 u1 u2 v0 v1 v2
  obtain ⟨_, vc, vt, hM⟩ := sep_mem HS.out.drew 2 rfl
  refine (peek_any _ b vc vt _ 0 hM).mono ?_
  rintro e w6 ⟨rfl, hf⟩
  rw [show peek (one (c1, a2) st2 tr2) 0 = ((c1, a2), true) from rfl]
  clear hM
  have hS := (HS.out.drew.fr0 hf).new 35 [.int .u64 c1, .int .u64 a2]
  clear HS p0 p1 q0 q1 s0 s1 t0 t1 pl ql sl tl hf
  have p0 := (hS.blk 4 rfl).cell 0
  have p1 := (hS.blk 4 rfl).cell 1
  have q0 := (hS.blk 5 rfl).cell 0
  have q1 := (hS.blk 5 rfl).cell 1
  have s0 := (hS.blk 6 rfl).cell 0
  have s1 := (hS.blk 6 rfl).cell 1
  have t0 := (hS.blk 7 rfl).cell 0
  have t1 := (hS.blk 7 rfl).cell 1
  simp only [List.getElem?_cons_zero, List.getElem?_cons_succ] at p0 p1 q0 q1 s0 s1 t0 t1
  have pl := (hS.blk 4 rfl).lt
  have ql := (hS.blk 5 rfl).lt
  have sl := (hS.blk 6 rfl).lt
  have tl := (hS.blk 7 rfl).lt
  have HS := Lib.hid hS
  clear hS
  obtain ⟨g1, st3, tr3, g2, g3⟩ := one_no (c1, a2) st2 tr2 2 (by decide) c1 o2 c1 c2 (by rintro ⟨_, e⟩; exact h2 e)
  have G1 := Lib.hid g1; have G2 := Lib.hid g2
  clear g1 g2 g3
  go_wp2_with fail
  refine ((HS.out.call 3 rfl (fun R hR => do_to hR (by show tr2.length ≤ 100000; rw [G4.out]; decide) ((2 : Nat) : Int) ⟨2, 0, c1, o2, c1, c2⟩ G1.out (one_err _ _ _ 2 (by decide) _ _ _ _) G2.out))).mono ?_
  rintro e w7 ⟨rfl, hS⟩
  unfold outV
  have hS := hS.new 41 [.int .u64 c1, .int .u64 a2, .bool false]
  clear HS p0 p1 q0 q1 s0 s1 t0 t1 pl ql sl tl G1 G2
  have p0 := (hS.blk 5 rfl).cell 0
  have p1 := (hS.blk 5 rfl).cell 1
  have q0 := (hS.blk 6 rfl).cell 0
  have q1 := (hS.blk 6 rfl).cell 1
  have s0 := (hS.blk 7 rfl).cell 0
  have s1 := (hS.blk 7 rfl).cell 1
  have t0 := (hS.blk 8 rfl).cell 0
  have t1 := (hS.blk 8 rfl).cell 1
  simp only [List.getElem?_cons_zero, List.getElem?_cons_succ] at p0 p1 q0 q1 s0 s1 t0 t1
  have pl := (hS.blk 5 rfl).lt
  have ql := (hS.blk 6 rfl).lt
  have sl := (hS.blk 7 rfl).lt
  have tl := (hS.blk 8 rfl).lt
  have HS := Lib.hid hS
  clear hS
  go_wp2_with fail
  obtain ⟨_, vc, vt, hM⟩ := sep_mem HS.out 4 rfl
  refine (peek_any _ b vc vt _ 0 hM).mono ?_
  rintro e w8 ⟨rfl, hf⟩
  rw [show peek (one (c1, a2) st3 tr3) 0 = ((c1, a2), true) from rfl]
  clear hM
  have hS := (HS.out.fr0 hf).new 35 [.int .u64 c1, .int .u64 a2]
  clear HS p0 p1 q0 q1 s0 s1 t0 t1 pl ql sl tl hf
  have p0 := (hS.blk 6 rfl).cell 0
  have p1 := (hS.blk 6 rfl).cell 1
  have q0 := (hS.blk 7 rfl).cell 0
  have q1 := (hS.blk 7 rfl).cell 1
  have s0 := (hS.blk 8 rfl).cell 0
  have s1 := (hS.blk 8 rfl).cell 1
  have t0 := (hS.blk 9 rfl).cell 0
  have t1 := (hS.blk 9 rfl).cell 1
  simp only [List.getElem?_cons_zero, List.getElem?_cons_succ] at p0 p1 q0 q1 s0 s1 t0 t1
  have pl := (hS.blk 6 rfl).lt
  have ql := (hS.blk 7 rfl).lt
  have sl := (hS.blk 8 rfl).lt
  have tl := (hS.blk 9 rfl).lt
  have u0 := (hS.blk 1 rfl).cell 0
  have u1 := (hS.blk 1 rfl).cell 1
  have u2 := (hS.blk 1 rfl).cell 2
  have v0 := (hS.blk 2 rfl).cell 0
  have v1 := (hS.blk 2 rfl).cell 1
  have n0 := (hS.blk 0 rfl).cell 0
  have n1 := (hS.blk 0 rfl).cell 1
  simp only [List.getElem?_cons_zero, List.getElem?_cons_succ] at u0 u1 u2 v0 v1 n0 n1
  have HF := Lib.hid hS.fr
  clear hS
  go_wp2_with fail
  refine wp_region_fr [(1, [0, 1, 2, 3, 4, 5, 6, 7, 8, 9, 10, 11, 12, 13, 14, 15, 16, 17, 18, 19, 20, 21, 22, 23, 24, 25, 26, 27, 28, 29, 30, 31, 32, 33, 34, 35])] [] (by kernel_rfl) (by kernel_rfl) ?_
  simp only [theOps, nthOp, List.map_cons, List.map_nil, Array.getD_eq_getD_getElem?, List.getElem?_toArray, List.getElem?_cons_succ, List.getElem?_cons_zero, Option.getD_some]
  repeat ((first | refine wpSegs_soft ?_ | refine wpSegs_pure ?_); (repeat (first | go_big_quiet_step (fail) | quiet_step (fail))); refine wpQuiet_nil ?_)
  refine wpSegs_done ?_
  go_wp2_with fail
  go_ret
  exact ⟨rfl, HF.out.drew⟩
theorem swaps_law (c1 c2 a1 a2 b1 b2 o1 o2 : Int) (w : World) :
    Calls Try.prog 4 #[.agg #[.int .u64 c1, .int .u64 c2], .agg #[.int .u64 a1, .int .u64 a2], .agg #[.int .u64 b1, .int .u64 b2], .agg #[.int .u64 o1, .int .u64 o2]] w fun e w' => e = .returned (.bool true) ∧ Fr [] w w' := by
  by_cases h1 : a1 = c1
  · subst h1
    by_cases h2 : a2 = c2
    · subst h2
      by_cases g1 : b1 = o1
      · subst g1
        by_cases g2 : b2 = o2
        · subst g2; exact swaps_eq_eq _ _ _ _ w
        · exact swaps_eq_n2 _ _ _ _ _ g2 w
      · exact swaps_eq_n1 _ _ _ _ _ _ g1 w
    · by_cases g1 : a1 = o1
      · subst g1
        by_cases g2 : a2 = o2
        · subst g2; exact swaps_n2_eq _ _ _ _ _ h2 w
        · exact swaps_n2_n2 _ _ _ _ _ _ h2 g2 w
      · exact swaps_n2_n1 _ _ _ _ _ _ _ h2 g1 w
  · by_cases g1 : a1 = o1
    · subst g1
      by_cases g2 : a2 = o2
      · subst g2; exact swaps_n1_eq _ _ _ _ _ _ h1 w
      · exact swaps_n1_n2 _ _ _ _ _ _ _ h1 g2 w
    · exact swaps_n1_n1 _ _ _ _ _ _ _ _ h1 g1 w
end Go.Proofs.Ytbgmcekbldponaa
