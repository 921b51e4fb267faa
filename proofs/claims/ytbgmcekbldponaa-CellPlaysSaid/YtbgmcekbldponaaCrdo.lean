/- The walk of the document's Do for layer 1. -/
import Derived.Test.YtbgmcekbldponaaCref
set_option linter.unusedSimpArgs false
set_option linter.unusedVariables false
namespace Go.Proofs.Ytbgmcekbldponaa
open Go.RowKit Go.Tum Go.Tum.C

theorem sep_ne {w0 w : World} {Ts : List Thing} (h : Sep w0 w Ts) (i j : Nat) (hij : i ≠ j) {p q : Nat} {T T' : TypeId} {cs cs' : List Value} (hi : Ts[i]? = some (blkT p T cs)) (hj : Ts[j]? = some (blkT q T' cs')) : p ≠ q := by
  obtain ⟨_, F, hF, hd⟩ := h
  have h1 := (hF i _ hi).1.1
  have h2 := (hF j _ hj).1.1
  have h3 := hd i j (List.getElem?_eq_some_iff.1 hi).1 (List.getElem?_eq_some_iff.1 hj).1 hij p (by rw [h1]; simp)
  rw [h2] at h3
  simpa using h3
/-- A slice of nothing, just made. -/
theorem sep_made {w0 w : World} {Ts : List Thing} (h : Sep w0 w Ts) (e : TypeId) (size : Nat) :
    Sep w0 (w.alloc (.cells #[] e)) (rowT 0 e size (.slice (some ⟨w.heap.size, 0, none⟩) 0 0) 0 [] :: Ts) :=
  h.fresh ⟨(Fr.refl [] w).alloc _, [w.heap.size], ⟨rfl, World.ownsRow_made w #[] 0 (Nat.zero_le _) (by unfold maxLen; omega) (by simp)⟩, by simp⟩

set_option maxHeartbeats 1000000 in
theorem rdo_err {w0 w : World} {R : List Thing} {vc vt : Value} {cs : List (Int × Int)} {tr : List Ev} (h : Sep w0 w (refT vc vt cs tr :: R)) (hc : cs.length ≤ 65536) (who : Int) (op : Op6) (he : err cs.length who op ≠ 0) :
    Calls Try.prog 13 #[.agg #[vc, vt], .int .i64 who, opV op] w fun e w' => e = .returned (.tuple #[.agg #[vc, vt], outV ⟨0, 0, false⟩, .int .i64 (err cs.length who op)]) ∧ Sep w0 w' (refT vc vt cs tr :: R) := by
  obtain ⟨hr1, hr2⟩ := sep_ref h 0 rfl
  obtain ⟨la, lc, rfl⟩ := ownsRow_any hr1
  obtain ⟨ta, tc, rfl⟩ := ownsRow_any hr2
  generalize hee : err cs.length who op = er at *
  have hn1 : (er != 0) = true := by simpa using he
  have HEE := Lib.hid hee
  have hS := (((h.new 31 [.slice la cs.length lc, .slice ta tr.length tc]).new 37 (enOp op)).new 31 [.slice none 0 0, .slice none 0 0]).new 41 [.int .u64 0, .int .u64 0, .bool false]
  simp only [World.size_alloc] at hS
  have HS := Lib.hid hS
  clear hS h hr1 hr2 he hee
  obtain ⟨k, a, ov, os, nv, ns⟩ := op
  unfold opV outV
  dsimp only
  dsimp only [enOp] at HS
  go_enter Try.func13, Try.ntmps13
  go_wp2_with fail
  refine (rcheck_any _ la cs.length lc _ who ⟨k, a, ov, os, nv, ns⟩ hc ⟨_, _, _, rfl⟩).mono ?_
  rintro e w1 ⟨rfl, hf⟩
  rw [HEE.out]
  have hS := HS.out.fr0 hf
  have x0 := (hS.blk 3 rfl).cell 0
  have x1 := (hS.blk 3 rfl).cell 1
  have r0 := (hS.blk 1 rfl).cell 0
  have r1 := (hS.blk 1 rfl).cell 1
  have f0 := (hS.blk 1 rfl).froz 0
  have f1 := (hS.blk 1 rfl).froz 1
  have o0 := (hS.blk 0 rfl).cell 0
  have o1 := (hS.blk 0 rfl).cell 1
  have o2 := (hS.blk 0 rfl).cell 2
  have g0 := (hS.blk 0 rfl).froz 0
  have g1 := (hS.blk 0 rfl).froz 1
  have g2 := (hS.blk 0 rfl).froz 2
  simp only [List.getElem?_cons_zero, List.getElem?_cons_succ] at x0 x1 r0 r1 o0 o1 o2
  have xl := (hS.blk 3 rfl).lt
  have rl := (hS.blk 1 rfl).lt
  have ol := (hS.blk 0 rfl).lt
  have HS2 := Lib.hid hS
  clear hS hf HS
  go_wp2_with fail
  have h2 := ((((HS2.out.set 1 rfl 0 (.slice la cs.length lc)).set 1 rfl 1 (.slice ta tr.length tc)).set 0 rfl 0 (.int .u64 0)).set 0 rfl 1 (.int .u64 0)).set 0 rfl 2 (.bool false)
  have k0 := (h2.blk 1 rfl).cell 0
  have k1 := (h2.blk 1 rfl).cell 1
  have k2 := (h2.blk 0 rfl).cell 0
  have k3 := (h2.blk 0 rfl).cell 1
  have k4 := (h2.blk 0 rfl).cell 2
  simp only [List.set_cons_zero, List.set_cons_succ, List.getElem?_cons_succ, List.getElem?_cons_zero] at k0 k1 k2 k3 k4
  exact bodyPost_ret (v := .tuple #[.agg #[.slice la cs.length lc, .slice ta tr.length tc], .agg #[.int .u64 0, .int .u64 0, .bool false], .int .i64 er]) (by simp [results, Try.results13, go_sem, k0, k1, k2, k3, k4]) rfl ⟨rfl, h2.tail.tail.tail.tail⟩

theorem sep_snd {w0 w : World} {T U : Thing} {Ts : List Thing} (h : Sep w0 w (T :: U :: Ts)) : Sep w0 w (T :: Ts) := (h.pull 1 rfl).tail
/-- Two slices, taken together. -/
theorem sep_join {w0 w : World} {Ts : List Thing} {vc vt : Value} {n m : Nat} {cs : List (Int × Int)} {tr : List Ev} (h : Sep w0 w (rowT 0 57 10 vt m (flat enEv tr) :: rowT 0 35 2 vc n (flat enC cs) :: Ts)) (hn : n = cs.length) (hm : m = tr.length) :
    Sep w0 w (refT vc vt cs tr :: Ts) := by
  subst hn; subst hm
  obtain ⟨h0, F, hF, hd⟩ := h
  have h1 := hF 0 _ rfl
  have h2 := hF 1 _ rfl
  have hlen : Ts.length + 2 = (rowT 0 57 10 vt tr.length (flat enEv tr) :: rowT 0 35 2 vc cs.length (flat enC cs) :: Ts).length := by simp
  refine ⟨h0, fun i => match i with | 0 => vc.ownBlock.toList ++ vt.ownBlock.toList | i + 1 => F (i + 2), fun i T hi => ?_, fun i j hi hj hij q hq => ?_⟩
  · cases i with
    | zero =>
      obtain rfl : refT vc vt cs tr = T := by simpa using hi
      refine ⟨⟨rfl, h2.1.2, h1.1.2⟩, fun k hk => ?_⟩
      rcases List.mem_append.1 hk with hk | hk
      · exact h2.2 k (by rw [h2.1.1]; exact hk)
      · exact h1.2 k (by rw [h1.1.1]; exact hk)
    | succ i => exact hF (i + 2) T (by simpa using hi)
  · simp only [List.length_cons] at hi hj
    cases i with
    | zero =>
      cases j with
      | zero => omega
      | succ j =>
        dsimp only at hq ⊢
        rcases List.mem_append.1 hq with hq | hq
        · exact hd 1 (j + 2) (by rw [← hlen]; omega) (by rw [← hlen]; omega) (by omega) q (by rw [h2.1.1]; exact hq)
        · exact hd 0 (j + 2) (by rw [← hlen]; omega) (by rw [← hlen]; omega) (by omega) q (by rw [h1.1.1]; exact hq)
    | succ i =>
      cases j with
      | zero =>
        dsimp only at hq ⊢
        intro hm
        rcases List.mem_append.1 hm with hm | hm
        · exact hd (i + 2) 1 (by rw [← hlen]; omega) (by rw [← hlen]; omega) (by omega) q hq (by rw [h2.1.1]; exact hm)
        · exact hd (i + 2) 0 (by rw [← hlen]; omega) (by rw [← hlen]; omega) (by omega) q hq (by rw [h1.1.1]; exact hm)
      | succ j => exact hd (i + 2) (j + 2) (by rw [← hlen]; omega) (by rw [← hlen]; omega) (by omega) q hq
set_option maxHeartbeats 8000000 in
set_option maxRecDepth 100000 in
theorem rdo_a {w0 w : World} {R : List Thing} {vc vt : Value} {cs : List (Int × Int)} {tr : List Ev} (h : Sep w0 w (refT vc vt cs tr :: R)) (hc : cs.length ≤ 65536) (ht : tr.length ≤ 100000) (who : Int) (k a ov os nv ns : Int) (he : err cs.length who ⟨k, a, ov, os, nv, ns⟩ = 0) (hk2 : k ≠ 2) :
    Calls Try.prog 13 #[.agg #[vc, vt], .int .i64 who, opV ⟨k, a, ov, os, nv, ns⟩] w fun e w' => ∃ vc' vt', e = .returned (.tuple #[.agg #[vc', vt'], outV (outOf (cs.getD a.toNat (0, 0)) ⟨k, a, ov, os, nv, ns⟩), .int .i64 0]) ∧
      Sep w0 w' (refT vc' vt' (cs.set a.toNat (becomes (cs.getD a.toNat (0, 0)) ⟨k, a, ov, os, nv, ns⟩)) (tr ++ [⟨who, ⟨k, a, ov, os, nv, ns⟩, outOf (cs.getD a.toNat (0, 0)) ⟨k, a, ov, os, nv, ns⟩⟩]) :: R) := by
  obtain ⟨i0, hi0, hz0, hz1, hz2⟩ := info_parts C_infoCell
  obtain ⟨j0, hj0, hy0, hy1, hy2⟩ := info_parts C_infoEvent
  obtain ⟨_, _, _, _, a0, an⟩ := err_zero he
  dsimp only at a0 an
  obtain ⟨a, rfl⟩ : ∃ n : Nat, a = n := ⟨a.toNat, by omega⟩
  rw [Int.toNat_natCast]
  have hal : a < cs.length := by omega
  have hai : (a : Int) < (cs.length : Int) := an
  obtain ⟨hr1, hr2⟩ := sep_ref h 0 rfl
  obtain ⟨g, lc, rfl, hgl, hgc⟩ : ∃ g n, vc = .slice (some ⟨g, 0, none⟩) cs.length n ∧ g < w.heap.size ∧ cs.length ≤ n := by
    rcases ownsRow_form hr1 with ⟨_, e⟩ | ⟨g, n, e, h1, _, h2, _⟩
    · omega
    · exact ⟨g, n, e, h1, h2⟩
  obtain ⟨ta, tc, rfl⟩ := ownsRow_any hr2
  have hcd : cs.getD a (0, 0) = cs[a] := by simp [List.getD_eq_getElem?_getD, hal]
  rw [hcd]
  have hf0 : (flat enC cs)[a * 2]? = some (.int .u64 cs[a].1) := by have := flat_get enC_len cs a hal 0 (by decide); simpa [enC] using this
  have hf1 : (flat enC cs)[a * 2 + 1]? = some (.int .u64 cs[a].2) := by have := flat_get enC_len cs a hal 1 (by decide); simpa [enC] using this
  have d0 := ownsRow_cell hr1 _ _ hf0
  have d1 := ownsRow_cell hr1 _ _ hf1
  have hset : ∀ u v : Int, ((flat enC cs).set (a * 2) (.int .u64 u)).set (a * 2 + 1) (.int .u64 v) = flat enC (cs.set a (u, v)) := by
    intro u v
    refine flat_ext enC_len _ (by simp [flat_length enC_len]) fun j hj q hq => ?_
    rw [List.length_set] at hj
    simp only [List.getElem_set]
    by_cases e : a = j
    · subst e
      rw [if_pos rfl]
      rcases (show q = 0 ∨ q = 1 by omega) with rfl | rfl
      · rw [List.getElem?_set_ne (by omega), Nat.add_zero, List.getElem?_set_self (by rw [flat_length enC_len]; omega)]; rfl
      · rw [List.getElem?_set_self (by rw [List.length_set, flat_length enC_len]; omega)]; rfl
    · rw [if_neg e, List.getElem?_set_ne (by omega), List.getElem?_set_ne (by omega), flat_get enC_len _ j hj q hq]
  have hou : outOf cs[a] ⟨k, a, ov, os, nv, ns⟩ = ⟨cs[a].1, cs[a].2, true⟩ := by simp [outOf, hk2]
  rw [hou]
  have hkb : (k != 2) = true := by simpa using hk2
  clear hou hcd hr1 hr2
  generalize hx : cs[a] = c at *
  obtain ⟨c1, c2⟩ := c
  obtain ⟨⟨n1, n2⟩, hbe⟩ : ∃ q, becomes (c1, c2) ⟨k, a, ov, os, nv, ns⟩ = q := ⟨_, rfl⟩
  rw [hbe]
  have hS := (((h.new 31 [.slice (some ⟨g, 0, none⟩) cs.length lc, .slice ta tr.length tc]).new 37 [.int .i64 k, .int .i64 a, .int .u64 ov, .int .u64 os, .int .u64 nv, .int .u64 ns]).new 31 [.slice none 0 0, .slice none 0 0]).new 41 [.int .u64 0, .int .u64 0, .bool false]
  simp only [World.size_alloc] at hS
  have HS := Lib.hid hS; have HE := Lib.hid he; have HX := Lib.hid hx; have HBE := Lib.hid hbe; have HSET := Lib.hid hset; have HF0 := Lib.hid hf0; have HF1 := Lib.hid hf1
  clear hS h he hx hbe hset hf0 hf1 hk2 d0 d1
  unfold opV outV
  dsimp only
  go_enter Try.func13, Try.ntmps13
  go_wp2_with fail
  refine (rcheck_any _ _ cs.length lc _ who ⟨k, a, ov, os, nv, ns⟩ hc ⟨_, _, _, rfl⟩).mono ?_
  rintro e w1 ⟨rfl, hf⟩
  rw [HE.out]
  have hS := HS.out.fr0 hf
  have b0 := (hS.blk 2 rfl).cell 0
  have b1 := (hS.blk 2 rfl).cell 1
  have b2 := (hS.blk 2 rfl).cell 2
  have b3 := (hS.blk 2 rfl).cell 3
  have b4 := (hS.blk 2 rfl).cell 4
  have b5 := (hS.blk 2 rfl).cell 5
  have x0 := (hS.blk 3 rfl).cell 0
  have x1 := (hS.blk 3 rfl).cell 1
  simp only [List.getElem?_cons_zero, List.getElem?_cons_succ] at b0 b1 b2 b3 b4 b5 x0 x1
  have bl := (hS.blk 2 rfl).lt
  have xl := (hS.blk 3 rfl).lt
  have e0 := ownsRow_cell (sep_ref hS 4 rfl).1 _ _ HF0.out
  have e1 := ownsRow_cell (sep_ref hS 4 rfl).1 _ _ HF1.out
  have HS := Lib.hid hS
  clear hS hf HE
  go_wp2_with fail
  have hS := HS.out.new 35 [.int .u64 c1, .int .u64 c2]
  clear b0 b1 b2 b3 b4 b5 x0 x1 bl xl e0 e1
  have b0 := (hS.blk 3 rfl).cell 0
  have b1 := (hS.blk 3 rfl).cell 1
  have b2 := (hS.blk 3 rfl).cell 2
  have b3 := (hS.blk 3 rfl).cell 3
  have b4 := (hS.blk 3 rfl).cell 4
  have b5 := (hS.blk 3 rfl).cell 5
  have x0 := (hS.blk 4 rfl).cell 0
  have x1 := (hS.blk 4 rfl).cell 1
  simp only [List.getElem?_cons_zero, List.getElem?_cons_succ] at b0 b1 b2 b3 b4 b5 x0 x1
  have bl := (hS.blk 3 rfl).lt
  have xl := (hS.blk 4 rfl).lt
  have y0 := (hS.blk 0 rfl).cell 0
  have y1 := (hS.blk 0 rfl).cell 1
  simp only [List.getElem?_cons_zero, List.getElem?_cons_succ] at y0 y1
  have yl := (hS.blk 0 rfl).lt
  have HS := Lib.hid hS
  clear hS
  generalize hW2 : w1.alloc (.cells #[.int .u64 c1, .int .u64 c2] 35) = W2 at *
  clear hW2
  refine wp_region_fr [(1, [0, 1, 2, 3, 4, 5, 6, 7, 8, 9, 10]), (2, [11]), (3, [12])] [] (by kernel_rfl) (by kernel_rfl) ?_
  simp only [theOps, nthOp, List.map_cons, List.map_nil, Array.getD_eq_getD_getElem?, List.getElem?_toArray, List.getElem?_cons_succ, List.getElem?_cons_zero, Option.getD_some]
  repeat ((first | refine wpSegs_soft ?_ | refine wpSegs_pure ?_ | refine wpSegs_here ?_); (repeat (first | go_big_quiet_step (fail) | quiet_step (fail))); refine wpQuiet_nil ?_)
  refine wpSegs_keep ?_
  go_wp2_with fail
  refine ⟨⟨⟨_, (by exact Fr.from_drew ((Fr.refl _ _).alloc _).drew)⟩, rfl⟩, ?_⟩
  refine wpSegs_hard ?_
  go_wp2_with fail
  refine wpSegs_done ?_
  have hS := (sep_made (HS.out.new 41 [.int .u64 c1, .int .u64 c2, .bool true]) 35 2).drew
  simp only [World.size_alloc] at hS
  have HS3 := Lib.hid hS
  clear hS HS b0 b1 b2 b3 b4 b5 x0 x1 bl xl y0 y1 yl
  have hS := HS3.out
  have b0 := (hS.blk 5 rfl).cell 0
  have b1 := (hS.blk 5 rfl).cell 1
  have b2 := (hS.blk 5 rfl).cell 2
  have b3 := (hS.blk 5 rfl).cell 3
  have b4 := (hS.blk 5 rfl).cell 4
  have b5 := (hS.blk 5 rfl).cell 5
  have x0 := (hS.blk 6 rfl).cell 0
  have x1 := (hS.blk 6 rfl).cell 1
  simp only [List.getElem?_cons_zero, List.getElem?_cons_succ] at b0 b1 b2 b3 b4 b5 x0 x1
  have bl := (hS.blk 5 rfl).lt
  have xl := (hS.blk 6 rfl).lt
  clear hS
  have hcl : (cs.length : Int) ≤ 65536 := by omega
  go_wp2_with (at_builtin; go_must (refine wpList_append_row _ rfl _ _ 28 rfl 0 35 i0 _ 2 16 Try.underlying28 hi0 hz0 hz1 hz2 rfl (by decide) (W2.heap.size + 1) 0 0 [] rfl (HS3.out.row 0 rfl) 0 35 (.slice (some ⟨g, 0, none⟩) cs.length lc) cs.length (flat enC cs) rfl (sep_ref HS3.out 7 rfl).1 (flat_one_cell enC_one _) (by unfold maxLen; omega) (by omega) (Nat.zero_le _) ?_))
  intro g5 c5 w5 hown hg5 hgg hc1 hc2
  have hown' : w5.ownsRow 0 35 2 (.slice (some ⟨g5, 0, none⟩) cs.length c5) cs.length (flat enC cs) := by simpa using hown
  have hS := HS3.out.grown 0 rfl hown' hg5 (fun q e => by
    rcases hgg with h1 | h1
    · exact .inl (by rw [← e, h1]; rfl)
    · right; simp only [Value.ownBlock, Option.some.injEq] at e; rw [← e, h1]; simp)
  clear hown hown' hg5 hgg HS3 b0 b1 b2 b3 b4 b5 x0 x1 bl xl
  have b0 := (hS.blk 5 rfl).cell 0
  have b1 := (hS.blk 5 rfl).cell 1
  have b2 := (hS.blk 5 rfl).cell 2
  have b3 := (hS.blk 5 rfl).cell 3
  have b4 := (hS.blk 5 rfl).cell 4
  have b5 := (hS.blk 5 rfl).cell 5
  have x0 := (hS.blk 6 rfl).cell 0
  have x1 := (hS.blk 6 rfl).cell 1
  simp only [List.getElem?_cons_zero, List.getElem?_cons_succ] at b0 b1 b2 b3 b4 b5 x0 x1
  have bl := (hS.blk 5 rfl).lt
  have xl := (hS.blk 6 rfl).lt
  have y0 := (hS.blk 2 rfl).cell 0
  have y1 := (hS.blk 2 rfl).cell 1
  simp only [List.getElem?_cons_zero, List.getElem?_cons_succ] at y0 y1
  have yl := (hS.blk 2 rfl).lt
  have HS := Lib.hid hS
  clear hS
  go_wp2_with fail
  refine wp_region_fr [(1, [0, 1, 2, 3, 4]), (2, [5]), (0, [6]), (3, [7])] [] (by kernel_rfl) (by kernel_rfl) ?_
  simp only [theOps, nthOp, List.map_cons, List.map_nil, Array.getD_eq_getD_getElem?, List.getElem?_toArray, List.getElem?_cons_succ, List.getElem?_cons_zero, Option.getD_some]
  repeat ((first | refine wpSegs_soft ?_ | refine wpSegs_pure ?_ | refine wpSegs_here ?_); (repeat (first | go_big_quiet_step (fail) | quiet_step (fail))); refine wpQuiet_nil ?_)
  refine wpSegs_keep ?_
  go_wp2_with fail
  refine (becomes_any _ (c1, c2) ⟨k, a, ov, os, nv, ns⟩).mono ?_
  rintro e w6 ⟨rfl, hf⟩
  rw [HBE.out]
  have HF := Lib.hid hf
  have hS := HS.out.drew.fr0 hf
  clear hf b0 b1 b2 b3 b4 b5 x0 x1 bl xl y0 y1 yl HS
  have e0 := ownsRow_cell (hS.row 0 rfl) _ _ HF0.out
  have e1 := ownsRow_cell (hS.row 0 rfl) _ _ HF1.out
  have f0 := ownsRow_froz (hS.row 0 rfl) (a * 2)
  have f1 := ownsRow_froz (hS.row 0 rfl) (a * 2 + 1)
  have gl := (World.ownsRow.lt (hS.row 0 rfl) g5 rfl).2
  have HS := Lib.hid hS
  clear hS
  go_wp2_with fail
  refine ⟨⟨⟨_, (by exact HF.out)⟩, rfl⟩, ?_⟩
  repeat ((first | refine wpSegs_soft ?_ | refine wpSegs_pure ?_ | refine wpSegs_here ?_); (repeat (first | go_big_quiet_step (fail) | quiet_step (fail))); refine wpQuiet_nil ?_)
  refine wpSegs_hard ?_
  go_wp2_with fail
  refine wpSegs_done ?_
  have hS := (HS.out.setRow 0 rfl (a * 2) (.int .u64 n1)).setRow 0 rfl (a * 2 + 1) (.int .u64 n2)
  simp only [List.set_cons_zero] at hS
  rw [HSET.out] at hS
  generalize ((w6.setCell ⟨g5, a * 2, none⟩ (.int .u64 n1)).setCell ⟨g5, a * 2 + 1, none⟩ (.int .u64 n2)) = W8 at *
  clear HS HF e0 e1 f0 f1 gl
  have b0 := (hS.blk 5 rfl).cell 0
  have b1 := (hS.blk 5 rfl).cell 1
  have b2 := (hS.blk 5 rfl).cell 2
  have b3 := (hS.blk 5 rfl).cell 3
  have b4 := (hS.blk 5 rfl).cell 4
  have b5 := (hS.blk 5 rfl).cell 5
  have x0 := (hS.blk 6 rfl).cell 0
  have x1 := (hS.blk 6 rfl).cell 1
  simp only [List.getElem?_cons_zero, List.getElem?_cons_succ] at b0 b1 b2 b3 b4 b5 x0 x1
  have bl := (hS.blk 5 rfl).lt
  have xl := (hS.blk 6 rfl).lt
  have o0 := (hS.blk 1 rfl).cell 0
  have o1 := (hS.blk 1 rfl).cell 1
  have o2 := (hS.blk 1 rfl).cell 2
  simp only [List.getElem?_cons_zero, List.getElem?_cons_succ] at o0 o1 o2
  have ol := (hS.blk 1 rfl).lt
  have hne := sep_ne hS 1 4 (by decide) rfl rfl
  have hne2 := sep_ne hS 5 4 (by decide) rfl rfl
  have hne3 := sep_ne hS 6 4 (by decide) rfl rfl
  have hne5 := sep_ne hS 3 4 (by decide) rfl rfl
  have HS := Lib.hid hS
  clear hS
  have hti : (tr.length : Int) ≤ 100000 := by omega
  generalize w.heap.size + 1 + 1 + 1 = B41 at *
  generalize w.heap.size + 1 + 1 = B31 at *
  generalize w.heap.size + 1 = Bop at *
  generalize w.heap.size = Bx at *
  generalize W2.heap.size = Bo at *
  go_wp2_with fail
  refine step_start ([1, 4, 9, 10, 13], [14]) [B31] (by kernel_rfl) ?_
  refine step_reads (N := 8) [0, 2, 3, 5, 6, 7, 8, 12] (by kernel_rfl) ⟨⟨_, Fr.refl _ _⟩, rfl⟩ ?_
  simp only [theOps, nthOp, List.map_cons, List.map_nil, Array.getD_eq_getD_getElem?, List.getElem?_toArray, List.getElem?_cons_succ, List.getElem?_cons_zero, Option.getD_some]
  repeat (first | go_big_quiet_step (fail) | quiet_step (fail))
  refine wpQuiet_nil ?_
  clear b0 b1 b2 b3 b4 b5 x0 x1 bl xl o0 o1 o2 ol
  refine step_two (N := 7) 1 9 (by kernel_rfl) rfl rfl ?_ ?_
  · go_wp2_with fail
    have hS := (sep_made HS.out 57 10).drew
    have HFr := Lib.hid (show Fr [] W8 _ from ((Fr.refl [] W8).alloc (.cells #[] 57)).drew)
    refine ⟨⟨⟨_, (by exact Fr.from_drew (HFr.out.mono (by simp)))⟩, rfl⟩, ?_⟩
    have HS2 := Lib.hid hS
    clear hS HS
    refine step_two (N := 6) 4 9 (by kernel_rfl) rfl rfl ?_ ?_
    · skip
      refine wpList_append_row _ rfl _ _ 29 rfl 0 57 j0 _ 10 80 Try.underlying29 hj0 hy0 hy1 hy2 rfl (by decide) (W8.heap.size) 0 0 [] rfl (HS2.out.row 0 rfl) 0 57 (.slice ta tr.length tc) tr.length (flat enEv tr) rfl (sep_ref HS2.out 8 rfl).2 (flat_one_cell enEv_one _) (by unfold maxLen; omega) (by omega) (Nat.zero_le _) ?_
      intro gT cT wT hown hgT hggT hcT1 hcT2
      simp only [Nat.zero_add, List.nil_append] at hown hcT1
      rw [Nat.zero_add]
      have hS := HS2.out.grown 0 rfl hown hgT (fun q e => by
        rcases hggT with h1 | h1
        · exact .inl (by rw [← e, h1]; rfl)
        · right; simp only [Value.ownBlock, Option.some.injEq] at e; rw [← e, h1]; simp)
      have HFr2 := Lib.hid (HFr.out.grown hgT (fun k e => .inr (by simp at e; omega)))
      have HGT := Lib.hid (show W8.heap.size ≤ gT from by
        rcases hggT with h1 | h1
        · omega
        · rw [h1]; simp <;> omega)
      simp only [Act.put, List.setIfInBounds_toArray, List.set_cons_zero, List.set_cons_succ]
      refine ⟨⟨⟨_, (by exact Fr.from_drew (HFr2.out.mono (by simp)))⟩, rfl⟩, ?_⟩
      clear HS2 hown hgT hggT hcT1 hcT2 HFr
      have HS2 := Lib.hid hS
      have HFr := HFr2
      clear hS HFr2
      refine step_keep (N := 5) 9 (by kernel_rfl) rfl ?_
      go_wp2_with fail
      have hS := HS2.out.new 57 (enEv ⟨who, ⟨k, a, ov, os, nv, ns⟩, ⟨c1, c2, true⟩⟩)
      have HFr2 := Lib.hid (HFr.out.alloc (.cells (enEv ⟨who, ⟨k, a, ov, os, nv, ns⟩, ⟨c1, c2, true⟩⟩).toArray 57))
      refine ⟨⟨⟨_, (by exact Fr.from_drew (HFr2.out.mono (by simp)))⟩, rfl⟩, ?_⟩
      clear HS2 HFr
      have HS2 := Lib.hid hS
      have HFr := HFr2
      clear hS HFr2
      refine step_keep (N := 4) 10 (by kernel_rfl) rfl ?_
      refine wpList_push_blk _ rfl _ _ 29 rfl 0 57 j0 _ 10 80 Try.underlying29 hj0 hy0 hy1 hy2 rfl (by decide) (.slice (some ⟨gT, 0, none⟩) tr.length cT) tr.length (flat enEv tr) rfl (HS2.out.row 1 rfl) (enEv ⟨who, ⟨k, a, ov, os, nv, ns⟩, ⟨c1, c2, true⟩⟩) _ _ rfl (HS2.out.blk 0 rfl) rfl (enEv_one _) (by unfold maxLen; omega) (by omega) (Nat.zero_le _) ?_
      intro gP cP wP hown hgP hggP _ _
      have hS := (HS2.out.grown 1 rfl hown hgP (fun q e => by
        rcases hggP with h1 | h1
        · exact .inl (h1.trans e)
        · right; simp only [Value.ownBlock, Option.some.injEq] at e; rw [← e, h1]; exact Nat.le_refl _)).tail
      have hbd := HS2.out.get 1 rfl
      have HFr2 := Lib.hid (HFr.out.grown hgP (fun k e => .inr (by
        have h1 : gT = k := by simpa [Value.ownBlock] using e
        have h2 := HGT.out
        omega)))
      simp only [Act.put, List.setIfInBounds_toArray, List.set_cons_zero, List.set_cons_succ]
      refine ⟨⟨⟨_, (by exact Fr.from_drew (HFr2.out.mono (by simp)))⟩, rfl⟩, ?_⟩
      clear HS2 hown hgP hggP hbd HFr
      have r0 := (hS.blk 5 rfl).cell 0
      have r1 := (hS.blk 5 rfl).cell 1
      have f0 := (hS.blk 5 rfl).froz 0
      have f1 := (hS.blk 5 rfl).froz 1
      have s0 := (hS.blk 4 rfl).cell 0
      have s1 := (hS.blk 4 rfl).cell 1
      have s2 := (hS.blk 4 rfl).cell 2
      have g0 := (hS.blk 4 rfl).froz 0
      have g1 := (hS.blk 4 rfl).froz 1
      have g2 := (hS.blk 4 rfl).froz 2
      simp only [List.getElem?_cons_zero, List.getElem?_cons_succ] at r0 r1 s0 s1 s2
      have rl := (hS.blk 5 rfl).lt
      have sl := (hS.blk 4 rfl).lt
      have HS2 := Lib.hid hS
      clear hS
      refine step_pures (N := 3) [11] (by kernel_rfl) ?_
      simp only [theOps, nthOp, List.map_cons, List.map_nil, Array.getD_eq_getD_getElem?, List.getElem?_toArray, List.getElem?_cons_succ, List.getElem?_cons_zero, Option.getD_some]
      repeat (first | go_big_quiet_step (fail) | quiet_step (fail))
      refine wpQuiet_nil ?_
      refine step_keep (N := 2) 13 (by kernel_rfl) rfl ?_
      go_wp2_with fail
      refine ⟨⟨⟨_, (by exact Fr.from_drew (((HFr2.out.mono (by simp)).setCell (.inl (by simp)) _).setCell (.inl (by simp)) _))⟩, rfl⟩, ?_⟩
      refine step_hard (N := 1) 14 (by kernel_rfl) rfl ?_
      go_wp2_with fail
      refine step_pures (N := 0) [15] (by kernel_rfl) ?_
      simp only [theOps, nthOp, List.map_cons, List.map_nil, Array.getD_eq_getD_getElem?, List.getElem?_toArray, List.getElem?_cons_succ, List.getElem?_cons_zero, Option.getD_some]
      repeat (first | go_big_quiet_step (fail) | quiet_step (fail))
      refine wpQuiet_nil ?_
      refine step_done (by kernel_rfl) ?_
      go_wp2_with fail
      have h2 := ((((HS2.out.set 5 rfl 0 (.slice (some ⟨g5, 0, none⟩) cs.length c5)).set 5 rfl 1 (.slice (some ⟨gP, 0, none⟩) (tr.length + 1) cP)).set 4 rfl 0 (.int .u64 c1)).set 4 rfl 1 (.int .u64 c2)).set 4 rfl 2 (.bool true)
      have k0 := (h2.blk 5 rfl).cell 0
      have k1 := (h2.blk 5 rfl).cell 1
      have k2 := (h2.blk 4 rfl).cell 0
      have k3 := (h2.blk 4 rfl).cell 1
      have k4 := (h2.blk 4 rfl).cell 2
      simp only [List.set_cons_zero, List.set_cons_succ, List.getElem?_cons_succ, List.getElem?_cons_zero] at k0 k1 k2 k3 k4
      refine bodyPost_ret (v := .tuple #[.agg #[.slice (some ⟨g5, 0, none⟩) cs.length c5, .slice (some ⟨gP, 0, none⟩) (tr.length + 1) cP], .agg #[.int .u64 c1, .int .u64 c2, .bool true], .int .i64 0]) (by simp [results, Try.results13, go_sem, k0, k1, k2, k3, k4]) rfl ⟨_, _, rfl, ?_⟩
      have h3 := h2
      rw [show flat enEv tr ++ enEv ⟨who, ⟨k, a, ov, os, nv, ns⟩, ⟨c1, c2, true⟩⟩ = flat enEv (tr ++ [⟨who, ⟨k, a, ov, os, nv, ns⟩, ⟨c1, c2, true⟩⟩]) from by rw [flat_app, flat_one]] at h3
      exact sep_snd (sep_snd (sep_snd (sep_snd (sep_snd (sep_snd (sep_snd (sep_join h3 (by simp) (by simp))))))))
    · go_wp2_with fail
      have hS : Sep w0 ((W8.alloc (.cells #[] 57)).alloc (.cells (enEv ⟨who, ⟨k, a, ov, os, nv, ns⟩, ⟨c1, c2, true⟩⟩).toArray 57)).drew _ := HS2.out.new 57 (enEv ⟨who, ⟨k, a, ov, os, nv, ns⟩, ⟨c1, c2, true⟩⟩)
      simp only [World.size_drew, World.size_alloc] at hS
      have HFr2 := Lib.hid (show Fr [] W8 _ from (((Fr.refl [] W8).alloc (.cells #[] 57)).alloc (.cells (enEv ⟨who, ⟨k, a, ov, os, nv, ns⟩, ⟨c1, c2, true⟩⟩).toArray 57)).drew)
      refine ⟨⟨⟨_, (by exact Fr.from_drew (HFr2.out.mono (by simp)))⟩, rfl⟩, ?_⟩
      clear HS2 HFr
      have HS2 := Lib.hid hS
      have HFr := HFr2
      clear hS HFr2
      refine step_keep (N := 5) 4 (by kernel_rfl) rfl ?_
      refine wpList_append_row _ rfl _ _ 29 rfl 0 57 j0 _ 10 80 Try.underlying29 hj0 hy0 hy1 hy2 rfl (by decide) (W8.heap.size) 0 0 [] rfl (HS2.out.row 1 rfl) 0 57 (.slice ta tr.length tc) tr.length (flat enEv tr) rfl (sep_ref HS2.out 9 rfl).2 (flat_one_cell enEv_one _) (by unfold maxLen; omega) (by omega) (Nat.zero_le _) ?_
      intro gT cT wT hown hgT hggT hcT1 hcT2
      simp only [Nat.zero_add, List.nil_append] at hown hcT1
      rw [Nat.zero_add]
      have hS := HS2.out.grown 1 rfl hown hgT (fun q e => by
        rcases hggT with h1 | h1
        · exact .inl (by rw [← e, h1]; rfl)
        · right; simp only [Value.ownBlock, Option.some.injEq] at e; rw [← e, h1]; simp)
      have HFr2 := Lib.hid (HFr.out.grown hgT (fun k e => .inr (by simp at e; omega)))
      have HGT := Lib.hid (show W8.heap.size ≤ gT from by
        rcases hggT with h1 | h1
        · omega
        · rw [h1]; simp <;> omega)
      simp only [Act.put, List.setIfInBounds_toArray, List.set_cons_zero, List.set_cons_succ]
      refine ⟨⟨⟨_, (by exact Fr.from_drew (HFr2.out.mono (by simp)))⟩, rfl⟩, ?_⟩
      clear HS2 hown hgT hggT hcT1 hcT2 HFr
      have HS2 := Lib.hid hS
      have HFr := HFr2
      clear hS HFr2
      refine step_keep (N := 4) 10 (by kernel_rfl) rfl ?_
      refine wpList_push_blk _ rfl _ _ 29 rfl 0 57 j0 _ 10 80 Try.underlying29 hj0 hy0 hy1 hy2 rfl (by decide) (.slice (some ⟨gT, 0, none⟩) tr.length cT) tr.length (flat enEv tr) rfl (HS2.out.row 1 rfl) (enEv ⟨who, ⟨k, a, ov, os, nv, ns⟩, ⟨c1, c2, true⟩⟩) _ _ rfl (HS2.out.blk 0 rfl) rfl (enEv_one _) (by unfold maxLen; omega) (by omega) (Nat.zero_le _) ?_
      intro gP cP wP hown hgP hggP _ _
      have hS := (HS2.out.grown 1 rfl hown hgP (fun q e => by
        rcases hggP with h1 | h1
        · exact .inl (h1.trans e)
        · right; simp only [Value.ownBlock, Option.some.injEq] at e; rw [← e, h1]; exact Nat.le_refl _)).tail
      have hbd := HS2.out.get 1 rfl
      have HFr2 := Lib.hid (HFr.out.grown hgP (fun k e => .inr (by
        have h1 : gT = k := by simpa [Value.ownBlock] using e
        have h2 := HGT.out
        omega)))
      simp only [Act.put, List.setIfInBounds_toArray, List.set_cons_zero, List.set_cons_succ]
      refine ⟨⟨⟨_, (by exact Fr.from_drew (HFr2.out.mono (by simp)))⟩, rfl⟩, ?_⟩
      clear HS2 hown hgP hggP hbd HFr
      have r0 := (hS.blk 5 rfl).cell 0
      have r1 := (hS.blk 5 rfl).cell 1
      have f0 := (hS.blk 5 rfl).froz 0
      have f1 := (hS.blk 5 rfl).froz 1
      have s0 := (hS.blk 4 rfl).cell 0
      have s1 := (hS.blk 4 rfl).cell 1
      have s2 := (hS.blk 4 rfl).cell 2
      have g0 := (hS.blk 4 rfl).froz 0
      have g1 := (hS.blk 4 rfl).froz 1
      have g2 := (hS.blk 4 rfl).froz 2
      simp only [List.getElem?_cons_zero, List.getElem?_cons_succ] at r0 r1 s0 s1 s2
      have rl := (hS.blk 5 rfl).lt
      have sl := (hS.blk 4 rfl).lt
      have HS2 := Lib.hid hS
      clear hS
      refine step_pures (N := 3) [11] (by kernel_rfl) ?_
      simp only [theOps, nthOp, List.map_cons, List.map_nil, Array.getD_eq_getD_getElem?, List.getElem?_toArray, List.getElem?_cons_succ, List.getElem?_cons_zero, Option.getD_some]
      repeat (first | go_big_quiet_step (fail) | quiet_step (fail))
      refine wpQuiet_nil ?_
      refine step_keep (N := 2) 13 (by kernel_rfl) rfl ?_
      go_wp2_with fail
      refine ⟨⟨⟨_, (by exact Fr.from_drew (((HFr2.out.mono (by simp)).setCell (.inl (by simp)) _).setCell (.inl (by simp)) _))⟩, rfl⟩, ?_⟩
      refine step_hard (N := 1) 14 (by kernel_rfl) rfl ?_
      go_wp2_with fail
      refine step_pures (N := 0) [15] (by kernel_rfl) ?_
      simp only [theOps, nthOp, List.map_cons, List.map_nil, Array.getD_eq_getD_getElem?, List.getElem?_toArray, List.getElem?_cons_succ, List.getElem?_cons_zero, Option.getD_some]
      repeat (first | go_big_quiet_step (fail) | quiet_step (fail))
      refine wpQuiet_nil ?_
      refine step_done (by kernel_rfl) ?_
      go_wp2_with fail
      have h2 := ((((HS2.out.set 5 rfl 0 (.slice (some ⟨g5, 0, none⟩) cs.length c5)).set 5 rfl 1 (.slice (some ⟨gP, 0, none⟩) (tr.length + 1) cP)).set 4 rfl 0 (.int .u64 c1)).set 4 rfl 1 (.int .u64 c2)).set 4 rfl 2 (.bool true)
      have k0 := (h2.blk 5 rfl).cell 0
      have k1 := (h2.blk 5 rfl).cell 1
      have k2 := (h2.blk 4 rfl).cell 0
      have k3 := (h2.blk 4 rfl).cell 1
      have k4 := (h2.blk 4 rfl).cell 2
      simp only [List.set_cons_zero, List.set_cons_succ, List.getElem?_cons_succ, List.getElem?_cons_zero] at k0 k1 k2 k3 k4
      refine bodyPost_ret (v := .tuple #[.agg #[.slice (some ⟨g5, 0, none⟩) cs.length c5, .slice (some ⟨gP, 0, none⟩) (tr.length + 1) cP], .agg #[.int .u64 c1, .int .u64 c2, .bool true], .int .i64 0]) (by simp [results, Try.results13, go_sem, k0, k1, k2, k3, k4]) rfl ⟨_, _, rfl, ?_⟩
      have h3 := h2
      rw [show flat enEv tr ++ enEv ⟨who, ⟨k, a, ov, os, nv, ns⟩, ⟨c1, c2, true⟩⟩ = flat enEv (tr ++ [⟨who, ⟨k, a, ov, os, nv, ns⟩, ⟨c1, c2, true⟩⟩]) from by rw [flat_app, flat_one]] at h3
      exact sep_snd (sep_snd (sep_snd (sep_snd (sep_snd (sep_snd (sep_snd (sep_join h3 (by simp) (by simp))))))))
  · go_wp2_with fail
    have hS := (HS.out.new 57 (enEv ⟨who, ⟨k, a, ov, os, nv, ns⟩, ⟨c1, c2, true⟩⟩)).drew
    have HFr := Lib.hid (show Fr [] W8 _ from ((Fr.refl [] W8).alloc (.cells (enEv ⟨who, ⟨k, a, ov, os, nv, ns⟩, ⟨c1, c2, true⟩⟩).toArray 57)).drew)
    refine ⟨⟨⟨_, (by exact Fr.from_drew (HFr.out.mono (by simp)))⟩, rfl⟩, ?_⟩
    have HS2 := Lib.hid hS
    clear hS HS
    refine step_keep (N := 6) 1 (by kernel_rfl) rfl ?_
    go_wp2_with fail
    have hS : Sep w0 ((W8.alloc (.cells (enEv ⟨who, ⟨k, a, ov, os, nv, ns⟩, ⟨c1, c2, true⟩⟩).toArray 57)).alloc (.cells #[] 57)).drew _ := (sep_made HS2.out 57 10).pull 1 rfl
    simp only [World.size_drew, World.size_alloc, List.eraseIdx_cons_succ, List.eraseIdx_cons_zero] at hS
    have HFr2 := Lib.hid (show Fr [] W8 _ from (((Fr.refl [] W8).alloc (.cells (enEv ⟨who, ⟨k, a, ov, os, nv, ns⟩, ⟨c1, c2, true⟩⟩).toArray 57)).alloc (.cells #[] 57)).drew)
    refine ⟨⟨⟨_, (by exact Fr.from_drew (HFr2.out.mono (by simp)))⟩, rfl⟩, ?_⟩
    clear HS2 HFr
    have HS2 := Lib.hid hS
    have HFr := HFr2
    clear hS HFr2
    refine step_keep (N := 5) 4 (by kernel_rfl) rfl ?_
    refine wpList_append_row _ rfl _ _ 29 rfl 0 57 j0 _ 10 80 Try.underlying29 hj0 hy0 hy1 hy2 rfl (by decide) (W8.heap.size + 1) 0 0 [] rfl (HS2.out.row 1 rfl) 0 57 (.slice ta tr.length tc) tr.length (flat enEv tr) rfl (sep_ref HS2.out 9 rfl).2 (flat_one_cell enEv_one _) (by unfold maxLen; omega) (by omega) (Nat.zero_le _) ?_
    intro gT cT wT hown hgT hggT hcT1 hcT2
    simp only [Nat.zero_add, List.nil_append] at hown hcT1
    rw [Nat.zero_add]
    have hS := HS2.out.grown 1 rfl hown hgT (fun q e => by
      rcases hggT with h1 | h1
      · exact .inl (by rw [← e, h1]; rfl)
      · right; simp only [Value.ownBlock, Option.some.injEq] at e; rw [← e, h1]; simp)
    have HFr2 := Lib.hid (HFr.out.grown hgT (fun k e => .inr (by simp at e; omega)))
    have HGT := Lib.hid (show W8.heap.size ≤ gT from by
      rcases hggT with h1 | h1
      · omega
      · rw [h1]; simp <;> omega)
    simp only [Act.put, List.setIfInBounds_toArray, List.set_cons_zero, List.set_cons_succ]
    refine ⟨⟨⟨_, (by exact Fr.from_drew (HFr2.out.mono (by simp)))⟩, rfl⟩, ?_⟩
    clear HS2 hown hgT hggT hcT1 hcT2 HFr
    have HS2 := Lib.hid hS
    have HFr := HFr2
    clear hS HFr2
    refine step_keep (N := 4) 10 (by kernel_rfl) rfl ?_
    refine wpList_push_blk _ rfl _ _ 29 rfl 0 57 j0 _ 10 80 Try.underlying29 hj0 hy0 hy1 hy2 rfl (by decide) (.slice (some ⟨gT, 0, none⟩) tr.length cT) tr.length (flat enEv tr) rfl (HS2.out.row 1 rfl) (enEv ⟨who, ⟨k, a, ov, os, nv, ns⟩, ⟨c1, c2, true⟩⟩) _ _ rfl (HS2.out.blk 0 rfl) rfl (enEv_one _) (by unfold maxLen; omega) (by omega) (Nat.zero_le _) ?_
    intro gP cP wP hown hgP hggP _ _
    have hS := (HS2.out.grown 1 rfl hown hgP (fun q e => by
      rcases hggP with h1 | h1
      · exact .inl (h1.trans e)
      · right; simp only [Value.ownBlock, Option.some.injEq] at e; rw [← e, h1]; exact Nat.le_refl _)).tail
    have hbd := HS2.out.get 1 rfl
    have HFr2 := Lib.hid (HFr.out.grown hgP (fun k e => .inr (by
      have h1 : gT = k := by simpa [Value.ownBlock] using e
      have h2 := HGT.out
      omega)))
    simp only [Act.put, List.setIfInBounds_toArray, List.set_cons_zero, List.set_cons_succ]
    refine ⟨⟨⟨_, (by exact Fr.from_drew (HFr2.out.mono (by simp)))⟩, rfl⟩, ?_⟩
    clear HS2 hown hgP hggP hbd HFr
    have r0 := (hS.blk 5 rfl).cell 0
    have r1 := (hS.blk 5 rfl).cell 1
    have f0 := (hS.blk 5 rfl).froz 0
    have f1 := (hS.blk 5 rfl).froz 1
    have s0 := (hS.blk 4 rfl).cell 0
    have s1 := (hS.blk 4 rfl).cell 1
    have s2 := (hS.blk 4 rfl).cell 2
    have g0 := (hS.blk 4 rfl).froz 0
    have g1 := (hS.blk 4 rfl).froz 1
    have g2 := (hS.blk 4 rfl).froz 2
    simp only [List.getElem?_cons_zero, List.getElem?_cons_succ] at r0 r1 s0 s1 s2
    have rl := (hS.blk 5 rfl).lt
    have sl := (hS.blk 4 rfl).lt
    have HS2 := Lib.hid hS
    clear hS
    refine step_pures (N := 3) [11] (by kernel_rfl) ?_
    simp only [theOps, nthOp, List.map_cons, List.map_nil, Array.getD_eq_getD_getElem?, List.getElem?_toArray, List.getElem?_cons_succ, List.getElem?_cons_zero, Option.getD_some]
    repeat (first | go_big_quiet_step (fail) | quiet_step (fail))
    refine wpQuiet_nil ?_
    refine step_keep (N := 2) 13 (by kernel_rfl) rfl ?_
    go_wp2_with fail
    refine ⟨⟨⟨_, (by exact Fr.from_drew (((HFr2.out.mono (by simp)).setCell (.inl (by simp)) _).setCell (.inl (by simp)) _))⟩, rfl⟩, ?_⟩
    refine step_hard (N := 1) 14 (by kernel_rfl) rfl ?_
    go_wp2_with fail
    refine step_pures (N := 0) [15] (by kernel_rfl) ?_
    simp only [theOps, nthOp, List.map_cons, List.map_nil, Array.getD_eq_getD_getElem?, List.getElem?_toArray, List.getElem?_cons_succ, List.getElem?_cons_zero, Option.getD_some]
    repeat (first | go_big_quiet_step (fail) | quiet_step (fail))
    refine wpQuiet_nil ?_
    refine step_done (by kernel_rfl) ?_
    go_wp2_with fail
    have h2 := ((((HS2.out.set 5 rfl 0 (.slice (some ⟨g5, 0, none⟩) cs.length c5)).set 5 rfl 1 (.slice (some ⟨gP, 0, none⟩) (tr.length + 1) cP)).set 4 rfl 0 (.int .u64 c1)).set 4 rfl 1 (.int .u64 c2)).set 4 rfl 2 (.bool true)
    have k0 := (h2.blk 5 rfl).cell 0
    have k1 := (h2.blk 5 rfl).cell 1
    have k2 := (h2.blk 4 rfl).cell 0
    have k3 := (h2.blk 4 rfl).cell 1
    have k4 := (h2.blk 4 rfl).cell 2
    simp only [List.set_cons_zero, List.set_cons_succ, List.getElem?_cons_succ, List.getElem?_cons_zero] at k0 k1 k2 k3 k4
    refine bodyPost_ret (v := .tuple #[.agg #[.slice (some ⟨g5, 0, none⟩) cs.length c5, .slice (some ⟨gP, 0, none⟩) (tr.length + 1) cP], .agg #[.int .u64 c1, .int .u64 c2, .bool true], .int .i64 0]) (by simp [results, Try.results13, go_sem, k0, k1, k2, k3, k4]) rfl ⟨_, _, rfl, ?_⟩
    have h3 := h2
    rw [show flat enEv tr ++ enEv ⟨who, ⟨k, a, ov, os, nv, ns⟩, ⟨c1, c2, true⟩⟩ = flat enEv (tr ++ [⟨who, ⟨k, a, ov, os, nv, ns⟩, ⟨c1, c2, true⟩⟩]) from by rw [flat_app, flat_one]] at h3
    exact sep_snd (sep_snd (sep_snd (sep_snd (sep_snd (sep_snd (sep_snd (sep_join h3 (by simp) (by simp))))))))
set_option maxHeartbeats 8000000 in
set_option maxRecDepth 100000 in
theorem rdo_b {w0 w : World} {R : List Thing} {vc vt : Value} {cs : List (Int × Int)} {tr : List Ev} (h : Sep w0 w (refT vc vt cs tr :: R)) (hc : cs.length ≤ 65536) (ht : tr.length ≤ 100000) (who : Int) (a ov os nv ns : Int) (he : err cs.length who ⟨2, a, ov, os, nv, ns⟩ = 0) (g1 : (cs.getD a.toNat (0, 0)).1 ≠ ov) :
    Calls Try.prog 13 #[.agg #[vc, vt], .int .i64 who, opV ⟨2, a, ov, os, nv, ns⟩] w fun e w' => ∃ vc' vt', e = .returned (.tuple #[.agg #[vc', vt'], outV (outOf (cs.getD a.toNat (0, 0)) ⟨2, a, ov, os, nv, ns⟩), .int .i64 0]) ∧
      Sep w0 w' (refT vc' vt' (cs.set a.toNat (becomes (cs.getD a.toNat (0, 0)) ⟨2, a, ov, os, nv, ns⟩)) (tr ++ [⟨who, ⟨2, a, ov, os, nv, ns⟩, outOf (cs.getD a.toNat (0, 0)) ⟨2, a, ov, os, nv, ns⟩⟩]) :: R) := by
  obtain ⟨i0, hi0, hz0, hz1, hz2⟩ := info_parts C_infoCell
  obtain ⟨j0, hj0, hy0, hy1, hy2⟩ := info_parts C_infoEvent
  obtain ⟨_, _, _, _, a0, an⟩ := err_zero he
  dsimp only at a0 an
  obtain ⟨a, rfl⟩ : ∃ n : Nat, a = n := ⟨a.toNat, by omega⟩
  rw [Int.toNat_natCast]
  have hal : a < cs.length := by omega
  have hai : (a : Int) < (cs.length : Int) := an
  obtain ⟨hr1, hr2⟩ := sep_ref h 0 rfl
  obtain ⟨g, lc, rfl, hgl, hgc⟩ : ∃ g n, vc = .slice (some ⟨g, 0, none⟩) cs.length n ∧ g < w.heap.size ∧ cs.length ≤ n := by
    rcases ownsRow_form hr1 with ⟨_, e⟩ | ⟨g, n, e, h1, _, h2, _⟩
    · omega
    · exact ⟨g, n, e, h1, h2⟩
  obtain ⟨ta, tc, rfl⟩ := ownsRow_any hr2
  have hcd : cs.getD a (0, 0) = cs[a] := by simp [List.getD_eq_getElem?_getD, hal]
  rw [hcd]
  rw [Int.toNat_natCast, hcd] at g1
  have hf0 : (flat enC cs)[a * 2]? = some (.int .u64 cs[a].1) := by have := flat_get enC_len cs a hal 0 (by decide); simpa [enC] using this
  have hf1 : (flat enC cs)[a * 2 + 1]? = some (.int .u64 cs[a].2) := by have := flat_get enC_len cs a hal 1 (by decide); simpa [enC] using this
  have d0 := ownsRow_cell hr1 _ _ hf0
  have d1 := ownsRow_cell hr1 _ _ hf1
  have hset : ∀ u v : Int, ((flat enC cs).set (a * 2) (.int .u64 u)).set (a * 2 + 1) (.int .u64 v) = flat enC (cs.set a (u, v)) := by
    intro u v
    refine flat_ext enC_len _ (by simp [flat_length enC_len]) fun j hj q hq => ?_
    rw [List.length_set] at hj
    simp only [List.getElem_set]
    by_cases e : a = j
    · subst e
      rw [if_pos rfl]
      rcases (show q = 0 ∨ q = 1 by omega) with rfl | rfl
      · rw [List.getElem?_set_ne (by omega), Nat.add_zero, List.getElem?_set_self (by rw [flat_length enC_len]; omega)]; rfl
      · rw [List.getElem?_set_self (by rw [List.length_set, flat_length enC_len]; omega)]; rfl
    · rw [if_neg e, List.getElem?_set_ne (by omega), List.getElem?_set_ne (by omega), flat_get enC_len _ j hj q hq]
  have hno : ¬ cs[a] = (ov, os) := fun e => g1 (by rw [e])
  have hou : outOf cs[a] ⟨2, a, ov, os, nv, ns⟩ = ⟨cs[a].1, cs[a].2, false⟩ := by simp [outOf, hno]
  clear hno
  rw [hou]
  clear hou hcd hr1 hr2
  generalize hx : cs[a] = c at *
  obtain ⟨c1, c2⟩ := c
  have hv1 : (c1 == ov) = false := by simpa using g1
  clear g1
  obtain ⟨⟨n1, n2⟩, hbe⟩ : ∃ q, becomes (c1, c2) ⟨2, a, ov, os, nv, ns⟩ = q := ⟨_, rfl⟩
  rw [hbe]
  have hS := (((h.new 31 [.slice (some ⟨g, 0, none⟩) cs.length lc, .slice ta tr.length tc]).new 37 [.int .i64 2, .int .i64 a, .int .u64 ov, .int .u64 os, .int .u64 nv, .int .u64 ns]).new 31 [.slice none 0 0, .slice none 0 0]).new 41 [.int .u64 0, .int .u64 0, .bool false]
  simp only [World.size_alloc] at hS
  have HS := Lib.hid hS; have HE := Lib.hid he; have HX := Lib.hid hx; have HBE := Lib.hid hbe; have HSET := Lib.hid hset; have HF0 := Lib.hid hf0; have HF1 := Lib.hid hf1
  clear hS h he hx hbe hset hf0 hf1 d0 d1
  unfold opV outV
  dsimp only
  go_enter Try.func13, Try.ntmps13
  go_wp2_with fail
  refine (rcheck_any _ _ cs.length lc _ who ⟨2, a, ov, os, nv, ns⟩ hc ⟨_, _, _, rfl⟩).mono ?_
  rintro e w1 ⟨rfl, hf⟩
  rw [HE.out]
  have hS := HS.out.fr0 hf
  have b0 := (hS.blk 2 rfl).cell 0
  have b1 := (hS.blk 2 rfl).cell 1
  have b2 := (hS.blk 2 rfl).cell 2
  have b3 := (hS.blk 2 rfl).cell 3
  have b4 := (hS.blk 2 rfl).cell 4
  have b5 := (hS.blk 2 rfl).cell 5
  have x0 := (hS.blk 3 rfl).cell 0
  have x1 := (hS.blk 3 rfl).cell 1
  simp only [List.getElem?_cons_zero, List.getElem?_cons_succ] at b0 b1 b2 b3 b4 b5 x0 x1
  have bl := (hS.blk 2 rfl).lt
  have xl := (hS.blk 3 rfl).lt
  have e0 := ownsRow_cell (sep_ref hS 4 rfl).1 _ _ HF0.out
  have e1 := ownsRow_cell (sep_ref hS 4 rfl).1 _ _ HF1.out
  have HS := Lib.hid hS
  clear hS hf HE
  go_wp2_with fail
  have hS := HS.out.new 35 [.int .u64 c1, .int .u64 c2]
  clear b0 b1 b2 b3 b4 b5 x0 x1 bl xl e0 e1
  have b0 := (hS.blk 3 rfl).cell 0
  have b1 := (hS.blk 3 rfl).cell 1
  have b2 := (hS.blk 3 rfl).cell 2
  have b3 := (hS.blk 3 rfl).cell 3
  have b4 := (hS.blk 3 rfl).cell 4
  have b5 := (hS.blk 3 rfl).cell 5
  have x0 := (hS.blk 4 rfl).cell 0
  have x1 := (hS.blk 4 rfl).cell 1
  simp only [List.getElem?_cons_zero, List.getElem?_cons_succ] at b0 b1 b2 b3 b4 b5 x0 x1
  have bl := (hS.blk 3 rfl).lt
  have xl := (hS.blk 4 rfl).lt
  have y0 := (hS.blk 0 rfl).cell 0
  have y1 := (hS.blk 0 rfl).cell 1
  simp only [List.getElem?_cons_zero, List.getElem?_cons_succ] at y0 y1
  have yl := (hS.blk 0 rfl).lt
  have HS := Lib.hid hS
  clear hS
  generalize hW2 : w1.alloc (.cells #[.int .u64 c1, .int .u64 c2] 35) = W2 at *
  clear hW2
  refine wp_region_fr [(1, [0, 1, 2, 3, 4, 5, 6, 7, 8, 9, 10]), (2, [11]), (3, [12])] [] (by kernel_rfl) (by kernel_rfl) ?_
  simp only [theOps, nthOp, List.map_cons, List.map_nil, Array.getD_eq_getD_getElem?, List.getElem?_toArray, List.getElem?_cons_succ, List.getElem?_cons_zero, Option.getD_some]
  repeat ((first | refine wpSegs_soft ?_ | refine wpSegs_pure ?_ | refine wpSegs_here ?_); (repeat (first | go_big_quiet_step (fail) | quiet_step (fail))); refine wpQuiet_nil ?_)
  refine wpSegs_keep ?_
  go_wp2_with fail
  refine ⟨⟨⟨_, (by exact Fr.from_drew ((Fr.refl _ _).alloc _).drew)⟩, rfl⟩, ?_⟩
  refine wpSegs_hard ?_
  go_wp2_with fail
  refine wpSegs_done ?_
  have hS := (sep_made (HS.out.new 41 [.int .u64 c1, .int .u64 c2, .bool false]) 35 2).drew
  simp only [World.size_alloc] at hS
  have HS3 := Lib.hid hS
  clear hS HS b0 b1 b2 b3 b4 b5 x0 x1 bl xl y0 y1 yl
  have hS := HS3.out
  have b0 := (hS.blk 5 rfl).cell 0
  have b1 := (hS.blk 5 rfl).cell 1
  have b2 := (hS.blk 5 rfl).cell 2
  have b3 := (hS.blk 5 rfl).cell 3
  have b4 := (hS.blk 5 rfl).cell 4
  have b5 := (hS.blk 5 rfl).cell 5
  have x0 := (hS.blk 6 rfl).cell 0
  have x1 := (hS.blk 6 rfl).cell 1
  simp only [List.getElem?_cons_zero, List.getElem?_cons_succ] at b0 b1 b2 b3 b4 b5 x0 x1
  have bl := (hS.blk 5 rfl).lt
  have xl := (hS.blk 6 rfl).lt
  clear hS
  have hcl : (cs.length : Int) ≤ 65536 := by omega
  go_wp2_with (at_builtin; go_must (refine wpList_append_row _ rfl _ _ 28 rfl 0 35 i0 _ 2 16 Try.underlying28 hi0 hz0 hz1 hz2 rfl (by decide) (W2.heap.size + 1) 0 0 [] rfl (HS3.out.row 0 rfl) 0 35 (.slice (some ⟨g, 0, none⟩) cs.length lc) cs.length (flat enC cs) rfl (sep_ref HS3.out 7 rfl).1 (flat_one_cell enC_one _) (by unfold maxLen; omega) (by omega) (Nat.zero_le _) ?_))
  intro g5 c5 w5 hown hg5 hgg hc1 hc2
  have hown' : w5.ownsRow 0 35 2 (.slice (some ⟨g5, 0, none⟩) cs.length c5) cs.length (flat enC cs) := by simpa using hown
  have hS := HS3.out.grown 0 rfl hown' hg5 (fun q e => by
    rcases hgg with h1 | h1
    · exact .inl (by rw [← e, h1]; rfl)
    · right; simp only [Value.ownBlock, Option.some.injEq] at e; rw [← e, h1]; simp)
  clear hown hown' hg5 hgg HS3 b0 b1 b2 b3 b4 b5 x0 x1 bl xl
  have b0 := (hS.blk 5 rfl).cell 0
  have b1 := (hS.blk 5 rfl).cell 1
  have b2 := (hS.blk 5 rfl).cell 2
  have b3 := (hS.blk 5 rfl).cell 3
  have b4 := (hS.blk 5 rfl).cell 4
  have b5 := (hS.blk 5 rfl).cell 5
  have x0 := (hS.blk 6 rfl).cell 0
  have x1 := (hS.blk 6 rfl).cell 1
  simp only [List.getElem?_cons_zero, List.getElem?_cons_succ] at b0 b1 b2 b3 b4 b5 x0 x1
  have bl := (hS.blk 5 rfl).lt
  have xl := (hS.blk 6 rfl).lt
  have y0 := (hS.blk 2 rfl).cell 0
  have y1 := (hS.blk 2 rfl).cell 1
  simp only [List.getElem?_cons_zero, List.getElem?_cons_succ] at y0 y1
  have yl := (hS.blk 2 rfl).lt
  have HS := Lib.hid hS
  clear hS
  go_wp2_with fail
  refine wp_region_fr [(1, [0, 1, 2, 3, 4]), (2, [5]), (0, [6]), (3, [7])] [] (by kernel_rfl) (by kernel_rfl) ?_
  simp only [theOps, nthOp, List.map_cons, List.map_nil, Array.getD_eq_getD_getElem?, List.getElem?_toArray, List.getElem?_cons_succ, List.getElem?_cons_zero, Option.getD_some]
  repeat ((first | refine wpSegs_soft ?_ | refine wpSegs_pure ?_ | refine wpSegs_here ?_); (repeat (first | go_big_quiet_step (fail) | quiet_step (fail))); refine wpQuiet_nil ?_)
  refine wpSegs_keep ?_
  go_wp2_with fail
  refine (becomes_any _ (c1, c2) ⟨2, a, ov, os, nv, ns⟩).mono ?_
  rintro e w6 ⟨rfl, hf⟩
  rw [HBE.out]
  have HF := Lib.hid hf
  have hS := HS.out.drew.fr0 hf
  clear hf b0 b1 b2 b3 b4 b5 x0 x1 bl xl y0 y1 yl HS
  have e0 := ownsRow_cell (hS.row 0 rfl) _ _ HF0.out
  have e1 := ownsRow_cell (hS.row 0 rfl) _ _ HF1.out
  have f0 := ownsRow_froz (hS.row 0 rfl) (a * 2)
  have f1 := ownsRow_froz (hS.row 0 rfl) (a * 2 + 1)
  have gl := (World.ownsRow.lt (hS.row 0 rfl) g5 rfl).2
  have HS := Lib.hid hS
  clear hS
  go_wp2_with fail
  refine ⟨⟨⟨_, (by exact HF.out)⟩, rfl⟩, ?_⟩
  repeat ((first | refine wpSegs_soft ?_ | refine wpSegs_pure ?_ | refine wpSegs_here ?_); (repeat (first | go_big_quiet_step (fail) | quiet_step (fail))); refine wpQuiet_nil ?_)
  refine wpSegs_hard ?_
  go_wp2_with fail
  refine wpSegs_done ?_
  have hS := (HS.out.setRow 0 rfl (a * 2) (.int .u64 n1)).setRow 0 rfl (a * 2 + 1) (.int .u64 n2)
  simp only [List.set_cons_zero] at hS
  rw [HSET.out] at hS
  generalize ((w6.setCell ⟨g5, a * 2, none⟩ (.int .u64 n1)).setCell ⟨g5, a * 2 + 1, none⟩ (.int .u64 n2)) = W8 at *
  clear HS HF e0 e1 f0 f1 gl
  have b0 := (hS.blk 5 rfl).cell 0
  have b1 := (hS.blk 5 rfl).cell 1
  have b2 := (hS.blk 5 rfl).cell 2
  have b3 := (hS.blk 5 rfl).cell 3
  have b4 := (hS.blk 5 rfl).cell 4
  have b5 := (hS.blk 5 rfl).cell 5
  have x0 := (hS.blk 6 rfl).cell 0
  have x1 := (hS.blk 6 rfl).cell 1
  simp only [List.getElem?_cons_zero, List.getElem?_cons_succ] at b0 b1 b2 b3 b4 b5 x0 x1
  have bl := (hS.blk 5 rfl).lt
  have xl := (hS.blk 6 rfl).lt
  have o0 := (hS.blk 1 rfl).cell 0
  have o1 := (hS.blk 1 rfl).cell 1
  have o2 := (hS.blk 1 rfl).cell 2
  simp only [List.getElem?_cons_zero, List.getElem?_cons_succ] at o0 o1 o2
  have ol := (hS.blk 1 rfl).lt
  have hne := sep_ne hS 1 4 (by decide) rfl rfl
  have hne2 := sep_ne hS 5 4 (by decide) rfl rfl
  have hne3 := sep_ne hS 6 4 (by decide) rfl rfl
  have hne5 := sep_ne hS 3 4 (by decide) rfl rfl
  have HS := Lib.hid hS
  clear hS
  have hti : (tr.length : Int) ≤ 100000 := by omega
  generalize w.heap.size + 1 + 1 + 1 = B41 at *
  generalize w.heap.size + 1 + 1 = B31 at *
  generalize w.heap.size + 1 = Bop at *
  generalize w.heap.size = Bx at *
  generalize W2.heap.size = Bo at *
  go_wp2_with fail
  refine step_start ([1, 4, 9, 10, 13], [14]) [B31] (by kernel_rfl) ?_
  refine step_reads (N := 8) [0, 2, 3, 5, 6, 7, 8, 12] (by kernel_rfl) ⟨⟨_, Fr.refl _ _⟩, rfl⟩ ?_
  simp only [theOps, nthOp, List.map_cons, List.map_nil, Array.getD_eq_getD_getElem?, List.getElem?_toArray, List.getElem?_cons_succ, List.getElem?_cons_zero, Option.getD_some]
  repeat (first | go_big_quiet_step (fail) | quiet_step (fail))
  refine wpQuiet_nil ?_
  clear b0 b1 b2 b3 b4 b5 x0 x1 bl xl o0 o1 o2 ol
  refine step_two (N := 7) 1 9 (by kernel_rfl) rfl rfl ?_ ?_
  · go_wp2_with fail
    have hS := (sep_made HS.out 57 10).drew
    have HFr := Lib.hid (show Fr [] W8 _ from ((Fr.refl [] W8).alloc (.cells #[] 57)).drew)
    refine ⟨⟨⟨_, (by exact Fr.from_drew (HFr.out.mono (by simp)))⟩, rfl⟩, ?_⟩
    have HS2 := Lib.hid hS
    clear hS HS
    refine step_two (N := 6) 4 9 (by kernel_rfl) rfl rfl ?_ ?_
    · skip
      refine wpList_append_row _ rfl _ _ 29 rfl 0 57 j0 _ 10 80 Try.underlying29 hj0 hy0 hy1 hy2 rfl (by decide) (W8.heap.size) 0 0 [] rfl (HS2.out.row 0 rfl) 0 57 (.slice ta tr.length tc) tr.length (flat enEv tr) rfl (sep_ref HS2.out 8 rfl).2 (flat_one_cell enEv_one _) (by unfold maxLen; omega) (by omega) (Nat.zero_le _) ?_
      intro gT cT wT hown hgT hggT hcT1 hcT2
      simp only [Nat.zero_add, List.nil_append] at hown hcT1
      rw [Nat.zero_add]
      have hS := HS2.out.grown 0 rfl hown hgT (fun q e => by
        rcases hggT with h1 | h1
        · exact .inl (by rw [← e, h1]; rfl)
        · right; simp only [Value.ownBlock, Option.some.injEq] at e; rw [← e, h1]; simp)
      have HFr2 := Lib.hid (HFr.out.grown hgT (fun k e => .inr (by simp at e; omega)))
      have HGT := Lib.hid (show W8.heap.size ≤ gT from by
        rcases hggT with h1 | h1
        · omega
        · rw [h1]; simp <;> omega)
      simp only [Act.put, List.setIfInBounds_toArray, List.set_cons_zero, List.set_cons_succ]
      refine ⟨⟨⟨_, (by exact Fr.from_drew (HFr2.out.mono (by simp)))⟩, rfl⟩, ?_⟩
      clear HS2 hown hgT hggT hcT1 hcT2 HFr
      have HS2 := Lib.hid hS
      have HFr := HFr2
      clear hS HFr2
      refine step_keep (N := 5) 9 (by kernel_rfl) rfl ?_
      go_wp2_with fail
      have hS := HS2.out.new 57 (enEv ⟨who, ⟨2, a, ov, os, nv, ns⟩, ⟨c1, c2, false⟩⟩)
      have HFr2 := Lib.hid (HFr.out.alloc (.cells (enEv ⟨who, ⟨2, a, ov, os, nv, ns⟩, ⟨c1, c2, false⟩⟩).toArray 57))
      refine ⟨⟨⟨_, (by exact Fr.from_drew (HFr2.out.mono (by simp)))⟩, rfl⟩, ?_⟩
      clear HS2 HFr
      have HS2 := Lib.hid hS
      have HFr := HFr2
      clear hS HFr2
      refine step_keep (N := 4) 10 (by kernel_rfl) rfl ?_
      refine wpList_push_blk _ rfl _ _ 29 rfl 0 57 j0 _ 10 80 Try.underlying29 hj0 hy0 hy1 hy2 rfl (by decide) (.slice (some ⟨gT, 0, none⟩) tr.length cT) tr.length (flat enEv tr) rfl (HS2.out.row 1 rfl) (enEv ⟨who, ⟨2, a, ov, os, nv, ns⟩, ⟨c1, c2, false⟩⟩) _ _ rfl (HS2.out.blk 0 rfl) rfl (enEv_one _) (by unfold maxLen; omega) (by omega) (Nat.zero_le _) ?_
      intro gP cP wP hown hgP hggP _ _
      have hS := (HS2.out.grown 1 rfl hown hgP (fun q e => by
        rcases hggP with h1 | h1
        · exact .inl (h1.trans e)
        · right; simp only [Value.ownBlock, Option.some.injEq] at e; rw [← e, h1]; exact Nat.le_refl _)).tail
      have hbd := HS2.out.get 1 rfl
      have HFr2 := Lib.hid (HFr.out.grown hgP (fun k e => .inr (by
        have h1 : gT = k := by simpa [Value.ownBlock] using e
        have h2 := HGT.out
        omega)))
      simp only [Act.put, List.setIfInBounds_toArray, List.set_cons_zero, List.set_cons_succ]
      refine ⟨⟨⟨_, (by exact Fr.from_drew (HFr2.out.mono (by simp)))⟩, rfl⟩, ?_⟩
      clear HS2 hown hgP hggP hbd HFr
      have r0 := (hS.blk 5 rfl).cell 0
      have r1 := (hS.blk 5 rfl).cell 1
      have f0 := (hS.blk 5 rfl).froz 0
      have f1 := (hS.blk 5 rfl).froz 1
      have s0 := (hS.blk 4 rfl).cell 0
      have s1 := (hS.blk 4 rfl).cell 1
      have s2 := (hS.blk 4 rfl).cell 2
      have g0 := (hS.blk 4 rfl).froz 0
      have g1 := (hS.blk 4 rfl).froz 1
      have g2 := (hS.blk 4 rfl).froz 2
      simp only [List.getElem?_cons_zero, List.getElem?_cons_succ] at r0 r1 s0 s1 s2
      have rl := (hS.blk 5 rfl).lt
      have sl := (hS.blk 4 rfl).lt
      have HS2 := Lib.hid hS
      clear hS
      refine step_pures (N := 3) [11] (by kernel_rfl) ?_
      simp only [theOps, nthOp, List.map_cons, List.map_nil, Array.getD_eq_getD_getElem?, List.getElem?_toArray, List.getElem?_cons_succ, List.getElem?_cons_zero, Option.getD_some]
      repeat (first | go_big_quiet_step (fail) | quiet_step (fail))
      refine wpQuiet_nil ?_
      refine step_keep (N := 2) 13 (by kernel_rfl) rfl ?_
      go_wp2_with fail
      refine ⟨⟨⟨_, (by exact Fr.from_drew (((HFr2.out.mono (by simp)).setCell (.inl (by simp)) _).setCell (.inl (by simp)) _))⟩, rfl⟩, ?_⟩
      refine step_hard (N := 1) 14 (by kernel_rfl) rfl ?_
      go_wp2_with fail
      refine step_pures (N := 0) [15] (by kernel_rfl) ?_
      simp only [theOps, nthOp, List.map_cons, List.map_nil, Array.getD_eq_getD_getElem?, List.getElem?_toArray, List.getElem?_cons_succ, List.getElem?_cons_zero, Option.getD_some]
      repeat (first | go_big_quiet_step (fail) | quiet_step (fail))
      refine wpQuiet_nil ?_
      refine step_done (by kernel_rfl) ?_
      go_wp2_with fail
      have h2 := ((((HS2.out.set 5 rfl 0 (.slice (some ⟨g5, 0, none⟩) cs.length c5)).set 5 rfl 1 (.slice (some ⟨gP, 0, none⟩) (tr.length + 1) cP)).set 4 rfl 0 (.int .u64 c1)).set 4 rfl 1 (.int .u64 c2)).set 4 rfl 2 (.bool false)
      have k0 := (h2.blk 5 rfl).cell 0
      have k1 := (h2.blk 5 rfl).cell 1
      have k2 := (h2.blk 4 rfl).cell 0
      have k3 := (h2.blk 4 rfl).cell 1
      have k4 := (h2.blk 4 rfl).cell 2
      simp only [List.set_cons_zero, List.set_cons_succ, List.getElem?_cons_succ, List.getElem?_cons_zero] at k0 k1 k2 k3 k4
      refine bodyPost_ret (v := .tuple #[.agg #[.slice (some ⟨g5, 0, none⟩) cs.length c5, .slice (some ⟨gP, 0, none⟩) (tr.length + 1) cP], .agg #[.int .u64 c1, .int .u64 c2, .bool false], .int .i64 0]) (by simp [results, Try.results13, go_sem, k0, k1, k2, k3, k4]) rfl ⟨_, _, rfl, ?_⟩
      have h3 := h2
      rw [show flat enEv tr ++ enEv ⟨who, ⟨2, a, ov, os, nv, ns⟩, ⟨c1, c2, false⟩⟩ = flat enEv (tr ++ [⟨who, ⟨2, a, ov, os, nv, ns⟩, ⟨c1, c2, false⟩⟩]) from by rw [flat_app, flat_one]] at h3
      exact sep_snd (sep_snd (sep_snd (sep_snd (sep_snd (sep_snd (sep_snd (sep_join h3 (by simp) (by simp))))))))
    · go_wp2_with fail
      have hS : Sep w0 ((W8.alloc (.cells #[] 57)).alloc (.cells (enEv ⟨who, ⟨2, a, ov, os, nv, ns⟩, ⟨c1, c2, false⟩⟩).toArray 57)).drew _ := HS2.out.new 57 (enEv ⟨who, ⟨2, a, ov, os, nv, ns⟩, ⟨c1, c2, false⟩⟩)
      simp only [World.size_drew, World.size_alloc] at hS
      have HFr2 := Lib.hid (show Fr [] W8 _ from (((Fr.refl [] W8).alloc (.cells #[] 57)).alloc (.cells (enEv ⟨who, ⟨2, a, ov, os, nv, ns⟩, ⟨c1, c2, false⟩⟩).toArray 57)).drew)
      refine ⟨⟨⟨_, (by exact Fr.from_drew (HFr2.out.mono (by simp)))⟩, rfl⟩, ?_⟩
      clear HS2 HFr
      have HS2 := Lib.hid hS
      have HFr := HFr2
      clear hS HFr2
      refine step_keep (N := 5) 4 (by kernel_rfl) rfl ?_
      refine wpList_append_row _ rfl _ _ 29 rfl 0 57 j0 _ 10 80 Try.underlying29 hj0 hy0 hy1 hy2 rfl (by decide) (W8.heap.size) 0 0 [] rfl (HS2.out.row 1 rfl) 0 57 (.slice ta tr.length tc) tr.length (flat enEv tr) rfl (sep_ref HS2.out 9 rfl).2 (flat_one_cell enEv_one _) (by unfold maxLen; omega) (by omega) (Nat.zero_le _) ?_
      intro gT cT wT hown hgT hggT hcT1 hcT2
      simp only [Nat.zero_add, List.nil_append] at hown hcT1
      rw [Nat.zero_add]
      have hS := HS2.out.grown 1 rfl hown hgT (fun q e => by
        rcases hggT with h1 | h1
        · exact .inl (by rw [← e, h1]; rfl)
        · right; simp only [Value.ownBlock, Option.some.injEq] at e; rw [← e, h1]; simp)
      have HFr2 := Lib.hid (HFr.out.grown hgT (fun k e => .inr (by simp at e; omega)))
      have HGT := Lib.hid (show W8.heap.size ≤ gT from by
        rcases hggT with h1 | h1
        · omega
        · rw [h1]; simp <;> omega)
      simp only [Act.put, List.setIfInBounds_toArray, List.set_cons_zero, List.set_cons_succ]
      refine ⟨⟨⟨_, (by exact Fr.from_drew (HFr2.out.mono (by simp)))⟩, rfl⟩, ?_⟩
      clear HS2 hown hgT hggT hcT1 hcT2 HFr
      have HS2 := Lib.hid hS
      have HFr := HFr2
      clear hS HFr2
      refine step_keep (N := 4) 10 (by kernel_rfl) rfl ?_
      refine wpList_push_blk _ rfl _ _ 29 rfl 0 57 j0 _ 10 80 Try.underlying29 hj0 hy0 hy1 hy2 rfl (by decide) (.slice (some ⟨gT, 0, none⟩) tr.length cT) tr.length (flat enEv tr) rfl (HS2.out.row 1 rfl) (enEv ⟨who, ⟨2, a, ov, os, nv, ns⟩, ⟨c1, c2, false⟩⟩) _ _ rfl (HS2.out.blk 0 rfl) rfl (enEv_one _) (by unfold maxLen; omega) (by omega) (Nat.zero_le _) ?_
      intro gP cP wP hown hgP hggP _ _
      have hS := (HS2.out.grown 1 rfl hown hgP (fun q e => by
        rcases hggP with h1 | h1
        · exact .inl (h1.trans e)
        · right; simp only [Value.ownBlock, Option.some.injEq] at e; rw [← e, h1]; exact Nat.le_refl _)).tail
      have hbd := HS2.out.get 1 rfl
      have HFr2 := Lib.hid (HFr.out.grown hgP (fun k e => .inr (by
        have h1 : gT = k := by simpa [Value.ownBlock] using e
        have h2 := HGT.out
        omega)))
      simp only [Act.put, List.setIfInBounds_toArray, List.set_cons_zero, List.set_cons_succ]
      refine ⟨⟨⟨_, (by exact Fr.from_drew (HFr2.out.mono (by simp)))⟩, rfl⟩, ?_⟩
      clear HS2 hown hgP hggP hbd HFr
      have r0 := (hS.blk 5 rfl).cell 0
      have r1 := (hS.blk 5 rfl).cell 1
      have f0 := (hS.blk 5 rfl).froz 0
      have f1 := (hS.blk 5 rfl).froz 1
      have s0 := (hS.blk 4 rfl).cell 0
      have s1 := (hS.blk 4 rfl).cell 1
      have s2 := (hS.blk 4 rfl).cell 2
      have g0 := (hS.blk 4 rfl).froz 0
      have g1 := (hS.blk 4 rfl).froz 1
      have g2 := (hS.blk 4 rfl).froz 2
      simp only [List.getElem?_cons_zero, List.getElem?_cons_succ] at r0 r1 s0 s1 s2
      have rl := (hS.blk 5 rfl).lt
      have sl := (hS.blk 4 rfl).lt
      have HS2 := Lib.hid hS
      clear hS
      refine step_pures (N := 3) [11] (by kernel_rfl) ?_
      simp only [theOps, nthOp, List.map_cons, List.map_nil, Array.getD_eq_getD_getElem?, List.getElem?_toArray, List.getElem?_cons_succ, List.getElem?_cons_zero, Option.getD_some]
      repeat (first | go_big_quiet_step (fail) | quiet_step (fail))
      refine wpQuiet_nil ?_
      refine step_keep (N := 2) 13 (by kernel_rfl) rfl ?_
      go_wp2_with fail
      refine ⟨⟨⟨_, (by exact Fr.from_drew (((HFr2.out.mono (by simp)).setCell (.inl (by simp)) _).setCell (.inl (by simp)) _))⟩, rfl⟩, ?_⟩
      refine step_hard (N := 1) 14 (by kernel_rfl) rfl ?_
      go_wp2_with fail
      refine step_pures (N := 0) [15] (by kernel_rfl) ?_
      simp only [theOps, nthOp, List.map_cons, List.map_nil, Array.getD_eq_getD_getElem?, List.getElem?_toArray, List.getElem?_cons_succ, List.getElem?_cons_zero, Option.getD_some]
      repeat (first | go_big_quiet_step (fail) | quiet_step (fail))
      refine wpQuiet_nil ?_
      refine step_done (by kernel_rfl) ?_
      go_wp2_with fail
      have h2 := ((((HS2.out.set 5 rfl 0 (.slice (some ⟨g5, 0, none⟩) cs.length c5)).set 5 rfl 1 (.slice (some ⟨gP, 0, none⟩) (tr.length + 1) cP)).set 4 rfl 0 (.int .u64 c1)).set 4 rfl 1 (.int .u64 c2)).set 4 rfl 2 (.bool false)
      have k0 := (h2.blk 5 rfl).cell 0
      have k1 := (h2.blk 5 rfl).cell 1
      have k2 := (h2.blk 4 rfl).cell 0
      have k3 := (h2.blk 4 rfl).cell 1
      have k4 := (h2.blk 4 rfl).cell 2
      simp only [List.set_cons_zero, List.set_cons_succ, List.getElem?_cons_succ, List.getElem?_cons_zero] at k0 k1 k2 k3 k4
      refine bodyPost_ret (v := .tuple #[.agg #[.slice (some ⟨g5, 0, none⟩) cs.length c5, .slice (some ⟨gP, 0, none⟩) (tr.length + 1) cP], .agg #[.int .u64 c1, .int .u64 c2, .bool false], .int .i64 0]) (by simp [results, Try.results13, go_sem, k0, k1, k2, k3, k4]) rfl ⟨_, _, rfl, ?_⟩
      have h3 := h2
      rw [show flat enEv tr ++ enEv ⟨who, ⟨2, a, ov, os, nv, ns⟩, ⟨c1, c2, false⟩⟩ = flat enEv (tr ++ [⟨who, ⟨2, a, ov, os, nv, ns⟩, ⟨c1, c2, false⟩⟩]) from by rw [flat_app, flat_one]] at h3
      exact sep_snd (sep_snd (sep_snd (sep_snd (sep_snd (sep_snd (sep_snd (sep_join h3 (by simp) (by simp))))))))
  · go_wp2_with fail
    have hS := (HS.out.new 57 (enEv ⟨who, ⟨2, a, ov, os, nv, ns⟩, ⟨c1, c2, false⟩⟩)).drew
    have HFr := Lib.hid (show Fr [] W8 _ from ((Fr.refl [] W8).alloc (.cells (enEv ⟨who, ⟨2, a, ov, os, nv, ns⟩, ⟨c1, c2, false⟩⟩).toArray 57)).drew)
    refine ⟨⟨⟨_, (by exact Fr.from_drew (HFr.out.mono (by simp)))⟩, rfl⟩, ?_⟩
    have HS2 := Lib.hid hS
    clear hS HS
    refine step_keep (N := 6) 1 (by kernel_rfl) rfl ?_
    go_wp2_with fail
    have hS : Sep w0 ((W8.alloc (.cells (enEv ⟨who, ⟨2, a, ov, os, nv, ns⟩, ⟨c1, c2, false⟩⟩).toArray 57)).alloc (.cells #[] 57)).drew _ := (sep_made HS2.out 57 10).pull 1 rfl
    simp only [World.size_drew, World.size_alloc, List.eraseIdx_cons_succ, List.eraseIdx_cons_zero] at hS
    have HFr2 := Lib.hid (show Fr [] W8 _ from (((Fr.refl [] W8).alloc (.cells (enEv ⟨who, ⟨2, a, ov, os, nv, ns⟩, ⟨c1, c2, false⟩⟩).toArray 57)).alloc (.cells #[] 57)).drew)
    refine ⟨⟨⟨_, (by exact Fr.from_drew (HFr2.out.mono (by simp)))⟩, rfl⟩, ?_⟩
    clear HS2 HFr
    have HS2 := Lib.hid hS
    have HFr := HFr2
    clear hS HFr2
    refine step_keep (N := 5) 4 (by kernel_rfl) rfl ?_
    refine wpList_append_row _ rfl _ _ 29 rfl 0 57 j0 _ 10 80 Try.underlying29 hj0 hy0 hy1 hy2 rfl (by decide) (W8.heap.size + 1) 0 0 [] rfl (HS2.out.row 1 rfl) 0 57 (.slice ta tr.length tc) tr.length (flat enEv tr) rfl (sep_ref HS2.out 9 rfl).2 (flat_one_cell enEv_one _) (by unfold maxLen; omega) (by omega) (Nat.zero_le _) ?_
    intro gT cT wT hown hgT hggT hcT1 hcT2
    simp only [Nat.zero_add, List.nil_append] at hown hcT1
    rw [Nat.zero_add]
    have hS := HS2.out.grown 1 rfl hown hgT (fun q e => by
      rcases hggT with h1 | h1
      · exact .inl (by rw [← e, h1]; rfl)
      · right; simp only [Value.ownBlock, Option.some.injEq] at e; rw [← e, h1]; simp)
    have HFr2 := Lib.hid (HFr.out.grown hgT (fun k e => .inr (by simp at e; omega)))
    have HGT := Lib.hid (show W8.heap.size ≤ gT from by
      rcases hggT with h1 | h1
      · omega
      · rw [h1]; simp <;> omega)
    simp only [Act.put, List.setIfInBounds_toArray, List.set_cons_zero, List.set_cons_succ]
    refine ⟨⟨⟨_, (by exact Fr.from_drew (HFr2.out.mono (by simp)))⟩, rfl⟩, ?_⟩
    clear HS2 hown hgT hggT hcT1 hcT2 HFr
    have HS2 := Lib.hid hS
    have HFr := HFr2
    clear hS HFr2
    refine step_keep (N := 4) 10 (by kernel_rfl) rfl ?_
    refine wpList_push_blk _ rfl _ _ 29 rfl 0 57 j0 _ 10 80 Try.underlying29 hj0 hy0 hy1 hy2 rfl (by decide) (.slice (some ⟨gT, 0, none⟩) tr.length cT) tr.length (flat enEv tr) rfl (HS2.out.row 1 rfl) (enEv ⟨who, ⟨2, a, ov, os, nv, ns⟩, ⟨c1, c2, false⟩⟩) _ _ rfl (HS2.out.blk 0 rfl) rfl (enEv_one _) (by unfold maxLen; omega) (by omega) (Nat.zero_le _) ?_
    intro gP cP wP hown hgP hggP _ _
    have hS := (HS2.out.grown 1 rfl hown hgP (fun q e => by
      rcases hggP with h1 | h1
      · exact .inl (h1.trans e)
      · right; simp only [Value.ownBlock, Option.some.injEq] at e; rw [← e, h1]; exact Nat.le_refl _)).tail
    have hbd := HS2.out.get 1 rfl
    have HFr2 := Lib.hid (HFr.out.grown hgP (fun k e => .inr (by
      have h1 : gT = k := by simpa [Value.ownBlock] using e
      have h2 := HGT.out
      omega)))
    simp only [Act.put, List.setIfInBounds_toArray, List.set_cons_zero, List.set_cons_succ]
    refine ⟨⟨⟨_, (by exact Fr.from_drew (HFr2.out.mono (by simp)))⟩, rfl⟩, ?_⟩
    clear HS2 hown hgP hggP hbd HFr
    have r0 := (hS.blk 5 rfl).cell 0
    have r1 := (hS.blk 5 rfl).cell 1
    have f0 := (hS.blk 5 rfl).froz 0
    have f1 := (hS.blk 5 rfl).froz 1
    have s0 := (hS.blk 4 rfl).cell 0
    have s1 := (hS.blk 4 rfl).cell 1
    have s2 := (hS.blk 4 rfl).cell 2
    have g0 := (hS.blk 4 rfl).froz 0
    have g1 := (hS.blk 4 rfl).froz 1
    have g2 := (hS.blk 4 rfl).froz 2
    simp only [List.getElem?_cons_zero, List.getElem?_cons_succ] at r0 r1 s0 s1 s2
    have rl := (hS.blk 5 rfl).lt
    have sl := (hS.blk 4 rfl).lt
    have HS2 := Lib.hid hS
    clear hS
    refine step_pures (N := 3) [11] (by kernel_rfl) ?_
    simp only [theOps, nthOp, List.map_cons, List.map_nil, Array.getD_eq_getD_getElem?, List.getElem?_toArray, List.getElem?_cons_succ, List.getElem?_cons_zero, Option.getD_some]
    repeat (first | go_big_quiet_step (fail) | quiet_step (fail))
    refine wpQuiet_nil ?_
    refine step_keep (N := 2) 13 (by kernel_rfl) rfl ?_
    go_wp2_with fail
    refine ⟨⟨⟨_, (by exact Fr.from_drew (((HFr2.out.mono (by simp)).setCell (.inl (by simp)) _).setCell (.inl (by simp)) _))⟩, rfl⟩, ?_⟩
    refine step_hard (N := 1) 14 (by kernel_rfl) rfl ?_
    go_wp2_with fail
    refine step_pures (N := 0) [15] (by kernel_rfl) ?_
    simp only [theOps, nthOp, List.map_cons, List.map_nil, Array.getD_eq_getD_getElem?, List.getElem?_toArray, List.getElem?_cons_succ, List.getElem?_cons_zero, Option.getD_some]
    repeat (first | go_big_quiet_step (fail) | quiet_step (fail))
    refine wpQuiet_nil ?_
    refine step_done (by kernel_rfl) ?_
    go_wp2_with fail
    have h2 := ((((HS2.out.set 5 rfl 0 (.slice (some ⟨g5, 0, none⟩) cs.length c5)).set 5 rfl 1 (.slice (some ⟨gP, 0, none⟩) (tr.length + 1) cP)).set 4 rfl 0 (.int .u64 c1)).set 4 rfl 1 (.int .u64 c2)).set 4 rfl 2 (.bool false)
    have k0 := (h2.blk 5 rfl).cell 0
    have k1 := (h2.blk 5 rfl).cell 1
    have k2 := (h2.blk 4 rfl).cell 0
    have k3 := (h2.blk 4 rfl).cell 1
    have k4 := (h2.blk 4 rfl).cell 2
    simp only [List.set_cons_zero, List.set_cons_succ, List.getElem?_cons_succ, List.getElem?_cons_zero] at k0 k1 k2 k3 k4
    refine bodyPost_ret (v := .tuple #[.agg #[.slice (some ⟨g5, 0, none⟩) cs.length c5, .slice (some ⟨gP, 0, none⟩) (tr.length + 1) cP], .agg #[.int .u64 c1, .int .u64 c2, .bool false], .int .i64 0]) (by simp [results, Try.results13, go_sem, k0, k1, k2, k3, k4]) rfl ⟨_, _, rfl, ?_⟩
    have h3 := h2
    rw [show flat enEv tr ++ enEv ⟨who, ⟨2, a, ov, os, nv, ns⟩, ⟨c1, c2, false⟩⟩ = flat enEv (tr ++ [⟨who, ⟨2, a, ov, os, nv, ns⟩, ⟨c1, c2, false⟩⟩]) from by rw [flat_app, flat_one]] at h3
    exact sep_snd (sep_snd (sep_snd (sep_snd (sep_snd (sep_snd (sep_snd (sep_join h3 (by simp) (by simp))))))))
set_option maxHeartbeats 8000000 in
set_option maxRecDepth 100000 in
theorem rdo_c {w0 w : World} {R : List Thing} {vc vt : Value} {cs : List (Int × Int)} {tr : List Ev} (h : Sep w0 w (refT vc vt cs tr :: R)) (hc : cs.length ≤ 65536) (ht : tr.length ≤ 100000) (who : Int) (a ov os nv ns : Int) (he : err cs.length who ⟨2, a, ov, os, nv, ns⟩ = 0) (g1 : (cs.getD a.toNat (0, 0)).1 = ov) (g2 : (cs.getD a.toNat (0, 0)).2 ≠ os) :
    Calls Try.prog 13 #[.agg #[vc, vt], .int .i64 who, opV ⟨2, a, ov, os, nv, ns⟩] w fun e w' => ∃ vc' vt', e = .returned (.tuple #[.agg #[vc', vt'], outV (outOf (cs.getD a.toNat (0, 0)) ⟨2, a, ov, os, nv, ns⟩), .int .i64 0]) ∧
      Sep w0 w' (refT vc' vt' (cs.set a.toNat (becomes (cs.getD a.toNat (0, 0)) ⟨2, a, ov, os, nv, ns⟩)) (tr ++ [⟨who, ⟨2, a, ov, os, nv, ns⟩, outOf (cs.getD a.toNat (0, 0)) ⟨2, a, ov, os, nv, ns⟩⟩]) :: R) := by
  obtain ⟨i0, hi0, hz0, hz1, hz2⟩ := info_parts C_infoCell
  obtain ⟨j0, hj0, hy0, hy1, hy2⟩ := info_parts C_infoEvent
  obtain ⟨_, _, _, _, a0, an⟩ := err_zero he
  dsimp only at a0 an
  obtain ⟨a, rfl⟩ : ∃ n : Nat, a = n := ⟨a.toNat, by omega⟩
  rw [Int.toNat_natCast]
  have hal : a < cs.length := by omega
  have hai : (a : Int) < (cs.length : Int) := an
  obtain ⟨hr1, hr2⟩ := sep_ref h 0 rfl
  obtain ⟨g, lc, rfl, hgl, hgc⟩ : ∃ g n, vc = .slice (some ⟨g, 0, none⟩) cs.length n ∧ g < w.heap.size ∧ cs.length ≤ n := by
    rcases ownsRow_form hr1 with ⟨_, e⟩ | ⟨g, n, e, h1, _, h2, _⟩
    · omega
    · exact ⟨g, n, e, h1, h2⟩
  obtain ⟨ta, tc, rfl⟩ := ownsRow_any hr2
  have hcd : cs.getD a (0, 0) = cs[a] := by simp [List.getD_eq_getElem?_getD, hal]
  rw [hcd]
  rw [Int.toNat_natCast, hcd] at g1 g2
  have hf0 : (flat enC cs)[a * 2]? = some (.int .u64 cs[a].1) := by have := flat_get enC_len cs a hal 0 (by decide); simpa [enC] using this
  have hf1 : (flat enC cs)[a * 2 + 1]? = some (.int .u64 cs[a].2) := by have := flat_get enC_len cs a hal 1 (by decide); simpa [enC] using this
  have d0 := ownsRow_cell hr1 _ _ hf0
  have d1 := ownsRow_cell hr1 _ _ hf1
  have hset : ∀ u v : Int, ((flat enC cs).set (a * 2) (.int .u64 u)).set (a * 2 + 1) (.int .u64 v) = flat enC (cs.set a (u, v)) := by
    intro u v
    refine flat_ext enC_len _ (by simp [flat_length enC_len]) fun j hj q hq => ?_
    rw [List.length_set] at hj
    simp only [List.getElem_set]
    by_cases e : a = j
    · subst e
      rw [if_pos rfl]
      rcases (show q = 0 ∨ q = 1 by omega) with rfl | rfl
      · rw [List.getElem?_set_ne (by omega), Nat.add_zero, List.getElem?_set_self (by rw [flat_length enC_len]; omega)]; rfl
      · rw [List.getElem?_set_self (by rw [List.length_set, flat_length enC_len]; omega)]; rfl
    · rw [if_neg e, List.getElem?_set_ne (by omega), List.getElem?_set_ne (by omega), flat_get enC_len _ j hj q hq]
  have hno : ¬ cs[a] = (ov, os) := fun e => g2 (by rw [e])
  have hou : outOf cs[a] ⟨2, a, ov, os, nv, ns⟩ = ⟨cs[a].1, cs[a].2, false⟩ := by simp [outOf, hno]
  clear hno
  rw [hou]
  clear hou hcd hr1 hr2
  generalize hx : cs[a] = c at *
  obtain ⟨c1, c2⟩ := c
  have hv1 : (c1 == ov) = true := by simpa using g1
  have hv2 : (c2 == os) = false := by simpa using g2
  clear g1 g2
  obtain ⟨⟨n1, n2⟩, hbe⟩ : ∃ q, becomes (c1, c2) ⟨2, a, ov, os, nv, ns⟩ = q := ⟨_, rfl⟩
  rw [hbe]
  have hS := (((h.new 31 [.slice (some ⟨g, 0, none⟩) cs.length lc, .slice ta tr.length tc]).new 37 [.int .i64 2, .int .i64 a, .int .u64 ov, .int .u64 os, .int .u64 nv, .int .u64 ns]).new 31 [.slice none 0 0, .slice none 0 0]).new 41 [.int .u64 0, .int .u64 0, .bool false]
  simp only [World.size_alloc] at hS
  have HS := Lib.hid hS; have HE := Lib.hid he; have HX := Lib.hid hx; have HBE := Lib.hid hbe; have HSET := Lib.hid hset; have HF0 := Lib.hid hf0; have HF1 := Lib.hid hf1
  clear hS h he hx hbe hset hf0 hf1 d0 d1
  unfold opV outV
  dsimp only
  go_enter Try.func13, Try.ntmps13
  go_wp2_with fail
  refine (rcheck_any _ _ cs.length lc _ who ⟨2, a, ov, os, nv, ns⟩ hc ⟨_, _, _, rfl⟩).mono ?_
  rintro e w1 ⟨rfl, hf⟩
  rw [HE.out]
  have hS := HS.out.fr0 hf
  have b0 := (hS.blk 2 rfl).cell 0
  have b1 := (hS.blk 2 rfl).cell 1
  have b2 := (hS.blk 2 rfl).cell 2
  have b3 := (hS.blk 2 rfl).cell 3
  have b4 := (hS.blk 2 rfl).cell 4
  have b5 := (hS.blk 2 rfl).cell 5
  have x0 := (hS.blk 3 rfl).cell 0
  have x1 := (hS.blk 3 rfl).cell 1
  simp only [List.getElem?_cons_zero, List.getElem?_cons_succ] at b0 b1 b2 b3 b4 b5 x0 x1
  have bl := (hS.blk 2 rfl).lt
  have xl := (hS.blk 3 rfl).lt
  have e0 := ownsRow_cell (sep_ref hS 4 rfl).1 _ _ HF0.out
  have e1 := ownsRow_cell (sep_ref hS 4 rfl).1 _ _ HF1.out
  have HS := Lib.hid hS
  clear hS hf HE
  go_wp2_with fail
  have hS := HS.out.new 35 [.int .u64 c1, .int .u64 c2]
  clear b0 b1 b2 b3 b4 b5 x0 x1 bl xl e0 e1
  have b0 := (hS.blk 3 rfl).cell 0
  have b1 := (hS.blk 3 rfl).cell 1
  have b2 := (hS.blk 3 rfl).cell 2
  have b3 := (hS.blk 3 rfl).cell 3
  have b4 := (hS.blk 3 rfl).cell 4
  have b5 := (hS.blk 3 rfl).cell 5
  have x0 := (hS.blk 4 rfl).cell 0
  have x1 := (hS.blk 4 rfl).cell 1
  simp only [List.getElem?_cons_zero, List.getElem?_cons_succ] at b0 b1 b2 b3 b4 b5 x0 x1
  have bl := (hS.blk 3 rfl).lt
  have xl := (hS.blk 4 rfl).lt
  have y0 := (hS.blk 0 rfl).cell 0
  have y1 := (hS.blk 0 rfl).cell 1
  simp only [List.getElem?_cons_zero, List.getElem?_cons_succ] at y0 y1
  have yl := (hS.blk 0 rfl).lt
  have HS := Lib.hid hS
  clear hS
  generalize hW2 : w1.alloc (.cells #[.int .u64 c1, .int .u64 c2] 35) = W2 at *
  clear hW2
  refine wp_region_fr [(1, [0, 1, 2, 3, 4, 5, 6, 7, 8, 9, 10]), (2, [11]), (3, [12])] [] (by kernel_rfl) (by kernel_rfl) ?_
  simp only [theOps, nthOp, List.map_cons, List.map_nil, Array.getD_eq_getD_getElem?, List.getElem?_toArray, List.getElem?_cons_succ, List.getElem?_cons_zero, Option.getD_some]
  repeat ((first | refine wpSegs_soft ?_ | refine wpSegs_pure ?_ | refine wpSegs_here ?_); (repeat (first | go_big_quiet_step (fail) | quiet_step (fail))); refine wpQuiet_nil ?_)
  refine wpSegs_keep ?_
  go_wp2_with fail
  refine ⟨⟨⟨_, (by exact Fr.from_drew ((Fr.refl _ _).alloc _).drew)⟩, rfl⟩, ?_⟩
  refine wpSegs_hard ?_
  go_wp2_with fail
  refine wpSegs_done ?_
  have hS := (sep_made (HS.out.new 41 [.int .u64 c1, .int .u64 c2, .bool false]) 35 2).drew
  simp only [World.size_alloc] at hS
  have HS3 := Lib.hid hS
  clear hS HS b0 b1 b2 b3 b4 b5 x0 x1 bl xl y0 y1 yl
  have hS := HS3.out
  have b0 := (hS.blk 5 rfl).cell 0
  have b1 := (hS.blk 5 rfl).cell 1
  have b2 := (hS.blk 5 rfl).cell 2
  have b3 := (hS.blk 5 rfl).cell 3
  have b4 := (hS.blk 5 rfl).cell 4
  have b5 := (hS.blk 5 rfl).cell 5
  have x0 := (hS.blk 6 rfl).cell 0
  have x1 := (hS.blk 6 rfl).cell 1
  simp only [List.getElem?_cons_zero, List.getElem?_cons_succ] at b0 b1 b2 b3 b4 b5 x0 x1
  have bl := (hS.blk 5 rfl).lt
  have xl := (hS.blk 6 rfl).lt
  clear hS
  have hcl : (cs.length : Int) ≤ 65536 := by omega
  go_wp2_with (at_builtin; go_must (refine wpList_append_row _ rfl _ _ 28 rfl 0 35 i0 _ 2 16 Try.underlying28 hi0 hz0 hz1 hz2 rfl (by decide) (W2.heap.size + 1) 0 0 [] rfl (HS3.out.row 0 rfl) 0 35 (.slice (some ⟨g, 0, none⟩) cs.length lc) cs.length (flat enC cs) rfl (sep_ref HS3.out 7 rfl).1 (flat_one_cell enC_one _) (by unfold maxLen; omega) (by omega) (Nat.zero_le _) ?_))
  intro g5 c5 w5 hown hg5 hgg hc1 hc2
  have hown' : w5.ownsRow 0 35 2 (.slice (some ⟨g5, 0, none⟩) cs.length c5) cs.length (flat enC cs) := by simpa using hown
  have hS := HS3.out.grown 0 rfl hown' hg5 (fun q e => by
    rcases hgg with h1 | h1
    · exact .inl (by rw [← e, h1]; rfl)
    · right; simp only [Value.ownBlock, Option.some.injEq] at e; rw [← e, h1]; simp)
  clear hown hown' hg5 hgg HS3 b0 b1 b2 b3 b4 b5 x0 x1 bl xl
  have b0 := (hS.blk 5 rfl).cell 0
  have b1 := (hS.blk 5 rfl).cell 1
  have b2 := (hS.blk 5 rfl).cell 2
  have b3 := (hS.blk 5 rfl).cell 3
  have b4 := (hS.blk 5 rfl).cell 4
  have b5 := (hS.blk 5 rfl).cell 5
  have x0 := (hS.blk 6 rfl).cell 0
  have x1 := (hS.blk 6 rfl).cell 1
  simp only [List.getElem?_cons_zero, List.getElem?_cons_succ] at b0 b1 b2 b3 b4 b5 x0 x1
  have bl := (hS.blk 5 rfl).lt
  have xl := (hS.blk 6 rfl).lt
  have y0 := (hS.blk 2 rfl).cell 0
  have y1 := (hS.blk 2 rfl).cell 1
  simp only [List.getElem?_cons_zero, List.getElem?_cons_succ] at y0 y1
  have yl := (hS.blk 2 rfl).lt
  have HS := Lib.hid hS
  clear hS
  go_wp2_with fail
  refine wp_region_fr [(1, [0, 1, 2, 3, 4]), (2, [5]), (0, [6]), (3, [7])] [] (by kernel_rfl) (by kernel_rfl) ?_
  simp only [theOps, nthOp, List.map_cons, List.map_nil, Array.getD_eq_getD_getElem?, List.getElem?_toArray, List.getElem?_cons_succ, List.getElem?_cons_zero, Option.getD_some]
  repeat ((first | refine wpSegs_soft ?_ | refine wpSegs_pure ?_ | refine wpSegs_here ?_); (repeat (first | go_big_quiet_step (fail) | quiet_step (fail))); refine wpQuiet_nil ?_)
  refine wpSegs_keep ?_
  go_wp2_with fail
  refine (becomes_any _ (c1, c2) ⟨2, a, ov, os, nv, ns⟩).mono ?_
  rintro e w6 ⟨rfl, hf⟩
  rw [HBE.out]
  have HF := Lib.hid hf
  have hS := HS.out.drew.fr0 hf
  clear hf b0 b1 b2 b3 b4 b5 x0 x1 bl xl y0 y1 yl HS
  have e0 := ownsRow_cell (hS.row 0 rfl) _ _ HF0.out
  have e1 := ownsRow_cell (hS.row 0 rfl) _ _ HF1.out
  have f0 := ownsRow_froz (hS.row 0 rfl) (a * 2)
  have f1 := ownsRow_froz (hS.row 0 rfl) (a * 2 + 1)
  have gl := (World.ownsRow.lt (hS.row 0 rfl) g5 rfl).2
  have HS := Lib.hid hS
  clear hS
  go_wp2_with fail
  refine ⟨⟨⟨_, (by exact HF.out)⟩, rfl⟩, ?_⟩
  repeat ((first | refine wpSegs_soft ?_ | refine wpSegs_pure ?_ | refine wpSegs_here ?_); (repeat (first | go_big_quiet_step (fail) | quiet_step (fail))); refine wpQuiet_nil ?_)
  refine wpSegs_hard ?_
  go_wp2_with fail
  refine wpSegs_done ?_
  have hS := (HS.out.setRow 0 rfl (a * 2) (.int .u64 n1)).setRow 0 rfl (a * 2 + 1) (.int .u64 n2)
  simp only [List.set_cons_zero] at hS
  rw [HSET.out] at hS
  generalize ((w6.setCell ⟨g5, a * 2, none⟩ (.int .u64 n1)).setCell ⟨g5, a * 2 + 1, none⟩ (.int .u64 n2)) = W8 at *
  clear HS HF e0 e1 f0 f1 gl
  have b0 := (hS.blk 5 rfl).cell 0
  have b1 := (hS.blk 5 rfl).cell 1
  have b2 := (hS.blk 5 rfl).cell 2
  have b3 := (hS.blk 5 rfl).cell 3
  have b4 := (hS.blk 5 rfl).cell 4
  have b5 := (hS.blk 5 rfl).cell 5
  have x0 := (hS.blk 6 rfl).cell 0
  have x1 := (hS.blk 6 rfl).cell 1
  simp only [List.getElem?_cons_zero, List.getElem?_cons_succ] at b0 b1 b2 b3 b4 b5 x0 x1
  have bl := (hS.blk 5 rfl).lt
  have xl := (hS.blk 6 rfl).lt
  have o0 := (hS.blk 1 rfl).cell 0
  have o1 := (hS.blk 1 rfl).cell 1
  have o2 := (hS.blk 1 rfl).cell 2
  simp only [List.getElem?_cons_zero, List.getElem?_cons_succ] at o0 o1 o2
  have ol := (hS.blk 1 rfl).lt
  have hne := sep_ne hS 1 4 (by decide) rfl rfl
  have hne2 := sep_ne hS 5 4 (by decide) rfl rfl
  have hne3 := sep_ne hS 6 4 (by decide) rfl rfl
  have hne5 := sep_ne hS 3 4 (by decide) rfl rfl
  have HS := Lib.hid hS
  clear hS
  have hti : (tr.length : Int) ≤ 100000 := by omega
  generalize w.heap.size + 1 + 1 + 1 = B41 at *
  generalize w.heap.size + 1 + 1 = B31 at *
  generalize w.heap.size + 1 = Bop at *
  generalize w.heap.size = Bx at *
  generalize W2.heap.size = Bo at *
  go_wp2_with fail
  refine step_start ([1, 4, 9, 10, 13], [14]) [B31] (by kernel_rfl) ?_
  refine step_reads (N := 8) [0, 2, 3, 5, 6, 7, 8, 12] (by kernel_rfl) ⟨⟨_, Fr.refl _ _⟩, rfl⟩ ?_
  simp only [theOps, nthOp, List.map_cons, List.map_nil, Array.getD_eq_getD_getElem?, List.getElem?_toArray, List.getElem?_cons_succ, List.getElem?_cons_zero, Option.getD_some]
  repeat (first | go_big_quiet_step (fail) | quiet_step (fail))
  refine wpQuiet_nil ?_
  clear b0 b1 b2 b3 b4 b5 x0 x1 bl xl o0 o1 o2 ol
  refine step_two (N := 7) 1 9 (by kernel_rfl) rfl rfl ?_ ?_
  · go_wp2_with fail
    have hS := (sep_made HS.out 57 10).drew
    have HFr := Lib.hid (show Fr [] W8 _ from ((Fr.refl [] W8).alloc (.cells #[] 57)).drew)
    refine ⟨⟨⟨_, (by exact Fr.from_drew (HFr.out.mono (by simp)))⟩, rfl⟩, ?_⟩
    have HS2 := Lib.hid hS
    clear hS HS
    refine step_two (N := 6) 4 9 (by kernel_rfl) rfl rfl ?_ ?_
    · skip
      refine wpList_append_row _ rfl _ _ 29 rfl 0 57 j0 _ 10 80 Try.underlying29 hj0 hy0 hy1 hy2 rfl (by decide) (W8.heap.size) 0 0 [] rfl (HS2.out.row 0 rfl) 0 57 (.slice ta tr.length tc) tr.length (flat enEv tr) rfl (sep_ref HS2.out 8 rfl).2 (flat_one_cell enEv_one _) (by unfold maxLen; omega) (by omega) (Nat.zero_le _) ?_
      intro gT cT wT hown hgT hggT hcT1 hcT2
      simp only [Nat.zero_add, List.nil_append] at hown hcT1
      rw [Nat.zero_add]
      have hS := HS2.out.grown 0 rfl hown hgT (fun q e => by
        rcases hggT with h1 | h1
        · exact .inl (by rw [← e, h1]; rfl)
        · right; simp only [Value.ownBlock, Option.some.injEq] at e; rw [← e, h1]; simp)
      have HFr2 := Lib.hid (HFr.out.grown hgT (fun k e => .inr (by simp at e; omega)))
      have HGT := Lib.hid (show W8.heap.size ≤ gT from by
        rcases hggT with h1 | h1
        · omega
        · rw [h1]; simp <;> omega)
      simp only [Act.put, List.setIfInBounds_toArray, List.set_cons_zero, List.set_cons_succ]
      refine ⟨⟨⟨_, (by exact Fr.from_drew (HFr2.out.mono (by simp)))⟩, rfl⟩, ?_⟩
      clear HS2 hown hgT hggT hcT1 hcT2 HFr
      have HS2 := Lib.hid hS
      have HFr := HFr2
      clear hS HFr2
      refine step_keep (N := 5) 9 (by kernel_rfl) rfl ?_
      go_wp2_with fail
      have hS := HS2.out.new 57 (enEv ⟨who, ⟨2, a, ov, os, nv, ns⟩, ⟨c1, c2, false⟩⟩)
      have HFr2 := Lib.hid (HFr.out.alloc (.cells (enEv ⟨who, ⟨2, a, ov, os, nv, ns⟩, ⟨c1, c2, false⟩⟩).toArray 57))
      refine ⟨⟨⟨_, (by exact Fr.from_drew (HFr2.out.mono (by simp)))⟩, rfl⟩, ?_⟩
      clear HS2 HFr
      have HS2 := Lib.hid hS
      have HFr := HFr2
      clear hS HFr2
      refine step_keep (N := 4) 10 (by kernel_rfl) rfl ?_
      refine wpList_push_blk _ rfl _ _ 29 rfl 0 57 j0 _ 10 80 Try.underlying29 hj0 hy0 hy1 hy2 rfl (by decide) (.slice (some ⟨gT, 0, none⟩) tr.length cT) tr.length (flat enEv tr) rfl (HS2.out.row 1 rfl) (enEv ⟨who, ⟨2, a, ov, os, nv, ns⟩, ⟨c1, c2, false⟩⟩) _ _ rfl (HS2.out.blk 0 rfl) rfl (enEv_one _) (by unfold maxLen; omega) (by omega) (Nat.zero_le _) ?_
      intro gP cP wP hown hgP hggP _ _
      have hS := (HS2.out.grown 1 rfl hown hgP (fun q e => by
        rcases hggP with h1 | h1
        · exact .inl (h1.trans e)
        · right; simp only [Value.ownBlock, Option.some.injEq] at e; rw [← e, h1]; exact Nat.le_refl _)).tail
      have hbd := HS2.out.get 1 rfl
      have HFr2 := Lib.hid (HFr.out.grown hgP (fun k e => .inr (by
        have h1 : gT = k := by simpa [Value.ownBlock] using e
        have h2 := HGT.out
        omega)))
      simp only [Act.put, List.setIfInBounds_toArray, List.set_cons_zero, List.set_cons_succ]
      refine ⟨⟨⟨_, (by exact Fr.from_drew (HFr2.out.mono (by simp)))⟩, rfl⟩, ?_⟩
      clear HS2 hown hgP hggP hbd HFr
      have r0 := (hS.blk 5 rfl).cell 0
      have r1 := (hS.blk 5 rfl).cell 1
      have f0 := (hS.blk 5 rfl).froz 0
      have f1 := (hS.blk 5 rfl).froz 1
      have s0 := (hS.blk 4 rfl).cell 0
      have s1 := (hS.blk 4 rfl).cell 1
      have s2 := (hS.blk 4 rfl).cell 2
      have g0 := (hS.blk 4 rfl).froz 0
      have g1 := (hS.blk 4 rfl).froz 1
      have g2 := (hS.blk 4 rfl).froz 2
      simp only [List.getElem?_cons_zero, List.getElem?_cons_succ] at r0 r1 s0 s1 s2
      have rl := (hS.blk 5 rfl).lt
      have sl := (hS.blk 4 rfl).lt
      have HS2 := Lib.hid hS
      clear hS
      refine step_pures (N := 3) [11] (by kernel_rfl) ?_
      simp only [theOps, nthOp, List.map_cons, List.map_nil, Array.getD_eq_getD_getElem?, List.getElem?_toArray, List.getElem?_cons_succ, List.getElem?_cons_zero, Option.getD_some]
      repeat (first | go_big_quiet_step (fail) | quiet_step (fail))
      refine wpQuiet_nil ?_
      refine step_keep (N := 2) 13 (by kernel_rfl) rfl ?_
      go_wp2_with fail
      refine ⟨⟨⟨_, (by exact Fr.from_drew (((HFr2.out.mono (by simp)).setCell (.inl (by simp)) _).setCell (.inl (by simp)) _))⟩, rfl⟩, ?_⟩
      refine step_hard (N := 1) 14 (by kernel_rfl) rfl ?_
      go_wp2_with fail
      refine step_pures (N := 0) [15] (by kernel_rfl) ?_
      simp only [theOps, nthOp, List.map_cons, List.map_nil, Array.getD_eq_getD_getElem?, List.getElem?_toArray, List.getElem?_cons_succ, List.getElem?_cons_zero, Option.getD_some]
      repeat (first | go_big_quiet_step (fail) | quiet_step (fail))
      refine wpQuiet_nil ?_
      refine step_done (by kernel_rfl) ?_
      go_wp2_with fail
      have h2 := ((((HS2.out.set 5 rfl 0 (.slice (some ⟨g5, 0, none⟩) cs.length c5)).set 5 rfl 1 (.slice (some ⟨gP, 0, none⟩) (tr.length + 1) cP)).set 4 rfl 0 (.int .u64 c1)).set 4 rfl 1 (.int .u64 c2)).set 4 rfl 2 (.bool false)
      have k0 := (h2.blk 5 rfl).cell 0
      have k1 := (h2.blk 5 rfl).cell 1
      have k2 := (h2.blk 4 rfl).cell 0
      have k3 := (h2.blk 4 rfl).cell 1
      have k4 := (h2.blk 4 rfl).cell 2
      simp only [List.set_cons_zero, List.set_cons_succ, List.getElem?_cons_succ, List.getElem?_cons_zero] at k0 k1 k2 k3 k4
      refine bodyPost_ret (v := .tuple #[.agg #[.slice (some ⟨g5, 0, none⟩) cs.length c5, .slice (some ⟨gP, 0, none⟩) (tr.length + 1) cP], .agg #[.int .u64 c1, .int .u64 c2, .bool false], .int .i64 0]) (by simp [results, Try.results13, go_sem, k0, k1, k2, k3, k4]) rfl ⟨_, _, rfl, ?_⟩
      have h3 := h2
      rw [show flat enEv tr ++ enEv ⟨who, ⟨2, a, ov, os, nv, ns⟩, ⟨c1, c2, false⟩⟩ = flat enEv (tr ++ [⟨who, ⟨2, a, ov, os, nv, ns⟩, ⟨c1, c2, false⟩⟩]) from by rw [flat_app, flat_one]] at h3
      exact sep_snd (sep_snd (sep_snd (sep_snd (sep_snd (sep_snd (sep_snd (sep_join h3 (by simp) (by simp))))))))
    · go_wp2_with fail
      have hS : Sep w0 ((W8.alloc (.cells #[] 57)).alloc (.cells (enEv ⟨who, ⟨2, a, ov, os, nv, ns⟩, ⟨c1, c2, false⟩⟩).toArray 57)).drew _ := HS2.out.new 57 (enEv ⟨who, ⟨2, a, ov, os, nv, ns⟩, ⟨c1, c2, false⟩⟩)
      simp only [World.size_drew, World.size_alloc] at hS
      have HFr2 := Lib.hid (show Fr [] W8 _ from (((Fr.refl [] W8).alloc (.cells #[] 57)).alloc (.cells (enEv ⟨who, ⟨2, a, ov, os, nv, ns⟩, ⟨c1, c2, false⟩⟩).toArray 57)).drew)
      refine ⟨⟨⟨_, (by exact Fr.from_drew (HFr2.out.mono (by simp)))⟩, rfl⟩, ?_⟩
      clear HS2 HFr
      have HS2 := Lib.hid hS
      have HFr := HFr2
      clear hS HFr2
      refine step_keep (N := 5) 4 (by kernel_rfl) rfl ?_
      refine wpList_append_row _ rfl _ _ 29 rfl 0 57 j0 _ 10 80 Try.underlying29 hj0 hy0 hy1 hy2 rfl (by decide) (W8.heap.size) 0 0 [] rfl (HS2.out.row 1 rfl) 0 57 (.slice ta tr.length tc) tr.length (flat enEv tr) rfl (sep_ref HS2.out 9 rfl).2 (flat_one_cell enEv_one _) (by unfold maxLen; omega) (by omega) (Nat.zero_le _) ?_
      intro gT cT wT hown hgT hggT hcT1 hcT2
      simp only [Nat.zero_add, List.nil_append] at hown hcT1
      rw [Nat.zero_add]
      have hS := HS2.out.grown 1 rfl hown hgT (fun q e => by
        rcases hggT with h1 | h1
        · exact .inl (by rw [← e, h1]; rfl)
        · right; simp only [Value.ownBlock, Option.some.injEq] at e; rw [← e, h1]; simp)
      have HFr2 := Lib.hid (HFr.out.grown hgT (fun k e => .inr (by simp at e; omega)))
      have HGT := Lib.hid (show W8.heap.size ≤ gT from by
        rcases hggT with h1 | h1
        · omega
        · rw [h1]; simp <;> omega)
      simp only [Act.put, List.setIfInBounds_toArray, List.set_cons_zero, List.set_cons_succ]
      refine ⟨⟨⟨_, (by exact Fr.from_drew (HFr2.out.mono (by simp)))⟩, rfl⟩, ?_⟩
      clear HS2 hown hgT hggT hcT1 hcT2 HFr
      have HS2 := Lib.hid hS
      have HFr := HFr2
      clear hS HFr2
      refine step_keep (N := 4) 10 (by kernel_rfl) rfl ?_
      refine wpList_push_blk _ rfl _ _ 29 rfl 0 57 j0 _ 10 80 Try.underlying29 hj0 hy0 hy1 hy2 rfl (by decide) (.slice (some ⟨gT, 0, none⟩) tr.length cT) tr.length (flat enEv tr) rfl (HS2.out.row 1 rfl) (enEv ⟨who, ⟨2, a, ov, os, nv, ns⟩, ⟨c1, c2, false⟩⟩) _ _ rfl (HS2.out.blk 0 rfl) rfl (enEv_one _) (by unfold maxLen; omega) (by omega) (Nat.zero_le _) ?_
      intro gP cP wP hown hgP hggP _ _
      have hS := (HS2.out.grown 1 rfl hown hgP (fun q e => by
        rcases hggP with h1 | h1
        · exact .inl (h1.trans e)
        · right; simp only [Value.ownBlock, Option.some.injEq] at e; rw [← e, h1]; exact Nat.le_refl _)).tail
      have hbd := HS2.out.get 1 rfl
      have HFr2 := Lib.hid (HFr.out.grown hgP (fun k e => .inr (by
        have h1 : gT = k := by simpa [Value.ownBlock] using e
        have h2 := HGT.out
        omega)))
      simp only [Act.put, List.setIfInBounds_toArray, List.set_cons_zero, List.set_cons_succ]
      refine ⟨⟨⟨_, (by exact Fr.from_drew (HFr2.out.mono (by simp)))⟩, rfl⟩, ?_⟩
      clear HS2 hown hgP hggP hbd HFr
      have r0 := (hS.blk 5 rfl).cell 0
      have r1 := (hS.blk 5 rfl).cell 1
      have f0 := (hS.blk 5 rfl).froz 0
      have f1 := (hS.blk 5 rfl).froz 1
      have s0 := (hS.blk 4 rfl).cell 0
      have s1 := (hS.blk 4 rfl).cell 1
      have s2 := (hS.blk 4 rfl).cell 2
      have g0 := (hS.blk 4 rfl).froz 0
      have g1 := (hS.blk 4 rfl).froz 1
      have g2 := (hS.blk 4 rfl).froz 2
      simp only [List.getElem?_cons_zero, List.getElem?_cons_succ] at r0 r1 s0 s1 s2
      have rl := (hS.blk 5 rfl).lt
      have sl := (hS.blk 4 rfl).lt
      have HS2 := Lib.hid hS
      clear hS
      refine step_pures (N := 3) [11] (by kernel_rfl) ?_
      simp only [theOps, nthOp, List.map_cons, List.map_nil, Array.getD_eq_getD_getElem?, List.getElem?_toArray, List.getElem?_cons_succ, List.getElem?_cons_zero, Option.getD_some]
      repeat (first | go_big_quiet_step (fail) | quiet_step (fail))
      refine wpQuiet_nil ?_
      refine step_keep (N := 2) 13 (by kernel_rfl) rfl ?_
      go_wp2_with fail
      refine ⟨⟨⟨_, (by exact Fr.from_drew (((HFr2.out.mono (by simp)).setCell (.inl (by simp)) _).setCell (.inl (by simp)) _))⟩, rfl⟩, ?_⟩
      refine step_hard (N := 1) 14 (by kernel_rfl) rfl ?_
      go_wp2_with fail
      refine step_pures (N := 0) [15] (by kernel_rfl) ?_
      simp only [theOps, nthOp, List.map_cons, List.map_nil, Array.getD_eq_getD_getElem?, List.getElem?_toArray, List.getElem?_cons_succ, List.getElem?_cons_zero, Option.getD_some]
      repeat (first | go_big_quiet_step (fail) | quiet_step (fail))
      refine wpQuiet_nil ?_
      refine step_done (by kernel_rfl) ?_
      go_wp2_with fail
      have h2 := ((((HS2.out.set 5 rfl 0 (.slice (some ⟨g5, 0, none⟩) cs.length c5)).set 5 rfl 1 (.slice (some ⟨gP, 0, none⟩) (tr.length + 1) cP)).set 4 rfl 0 (.int .u64 c1)).set 4 rfl 1 (.int .u64 c2)).set 4 rfl 2 (.bool false)
      have k0 := (h2.blk 5 rfl).cell 0
      have k1 := (h2.blk 5 rfl).cell 1
      have k2 := (h2.blk 4 rfl).cell 0
      have k3 := (h2.blk 4 rfl).cell 1
      have k4 := (h2.blk 4 rfl).cell 2
      simp only [List.set_cons_zero, List.set_cons_succ, List.getElem?_cons_succ, List.getElem?_cons_zero] at k0 k1 k2 k3 k4
      refine bodyPost_ret (v := .tuple #[.agg #[.slice (some ⟨g5, 0, none⟩) cs.length c5, .slice (some ⟨gP, 0, none⟩) (tr.length + 1) cP], .agg #[.int .u64 c1, .int .u64 c2, .bool false], .int .i64 0]) (by simp [results, Try.results13, go_sem, k0, k1, k2, k3, k4]) rfl ⟨_, _, rfl, ?_⟩
      have h3 := h2
      rw [show flat enEv tr ++ enEv ⟨who, ⟨2, a, ov, os, nv, ns⟩, ⟨c1, c2, false⟩⟩ = flat enEv (tr ++ [⟨who, ⟨2, a, ov, os, nv, ns⟩, ⟨c1, c2, false⟩⟩]) from by rw [flat_app, flat_one]] at h3
      exact sep_snd (sep_snd (sep_snd (sep_snd (sep_snd (sep_snd (sep_snd (sep_join h3 (by simp) (by simp))))))))
  · go_wp2_with fail
    have hS := (HS.out.new 57 (enEv ⟨who, ⟨2, a, ov, os, nv, ns⟩, ⟨c1, c2, false⟩⟩)).drew
    have HFr := Lib.hid (show Fr [] W8 _ from ((Fr.refl [] W8).alloc (.cells (enEv ⟨who, ⟨2, a, ov, os, nv, ns⟩, ⟨c1, c2, false⟩⟩).toArray 57)).drew)
    refine ⟨⟨⟨_, (by exact Fr.from_drew (HFr.out.mono (by simp)))⟩, rfl⟩, ?_⟩
    have HS2 := Lib.hid hS
    clear hS HS
    refine step_keep (N := 6) 1 (by kernel_rfl) rfl ?_
    go_wp2_with fail
    have hS : Sep w0 ((W8.alloc (.cells (enEv ⟨who, ⟨2, a, ov, os, nv, ns⟩, ⟨c1, c2, false⟩⟩).toArray 57)).alloc (.cells #[] 57)).drew _ := (sep_made HS2.out 57 10).pull 1 rfl
    simp only [World.size_drew, World.size_alloc, List.eraseIdx_cons_succ, List.eraseIdx_cons_zero] at hS
    have HFr2 := Lib.hid (show Fr [] W8 _ from (((Fr.refl [] W8).alloc (.cells (enEv ⟨who, ⟨2, a, ov, os, nv, ns⟩, ⟨c1, c2, false⟩⟩).toArray 57)).alloc (.cells #[] 57)).drew)
    refine ⟨⟨⟨_, (by exact Fr.from_drew (HFr2.out.mono (by simp)))⟩, rfl⟩, ?_⟩
    clear HS2 HFr
    have HS2 := Lib.hid hS
    have HFr := HFr2
    clear hS HFr2
    refine step_keep (N := 5) 4 (by kernel_rfl) rfl ?_
    refine wpList_append_row _ rfl _ _ 29 rfl 0 57 j0 _ 10 80 Try.underlying29 hj0 hy0 hy1 hy2 rfl (by decide) (W8.heap.size + 1) 0 0 [] rfl (HS2.out.row 1 rfl) 0 57 (.slice ta tr.length tc) tr.length (flat enEv tr) rfl (sep_ref HS2.out 9 rfl).2 (flat_one_cell enEv_one _) (by unfold maxLen; omega) (by omega) (Nat.zero_le _) ?_
    intro gT cT wT hown hgT hggT hcT1 hcT2
    simp only [Nat.zero_add, List.nil_append] at hown hcT1
    rw [Nat.zero_add]
    have hS := HS2.out.grown 1 rfl hown hgT (fun q e => by
      rcases hggT with h1 | h1
      · exact .inl (by rw [← e, h1]; rfl)
      · right; simp only [Value.ownBlock, Option.some.injEq] at e; rw [← e, h1]; simp)
    have HFr2 := Lib.hid (HFr.out.grown hgT (fun k e => .inr (by simp at e; omega)))
    have HGT := Lib.hid (show W8.heap.size ≤ gT from by
      rcases hggT with h1 | h1
      · omega
      · rw [h1]; simp <;> omega)
    simp only [Act.put, List.setIfInBounds_toArray, List.set_cons_zero, List.set_cons_succ]
    refine ⟨⟨⟨_, (by exact Fr.from_drew (HFr2.out.mono (by simp)))⟩, rfl⟩, ?_⟩
    clear HS2 hown hgT hggT hcT1 hcT2 HFr
    have HS2 := Lib.hid hS
    have HFr := HFr2
    clear hS HFr2
    refine step_keep (N := 4) 10 (by kernel_rfl) rfl ?_
    refine wpList_push_blk _ rfl _ _ 29 rfl 0 57 j0 _ 10 80 Try.underlying29 hj0 hy0 hy1 hy2 rfl (by decide) (.slice (some ⟨gT, 0, none⟩) tr.length cT) tr.length (flat enEv tr) rfl (HS2.out.row 1 rfl) (enEv ⟨who, ⟨2, a, ov, os, nv, ns⟩, ⟨c1, c2, false⟩⟩) _ _ rfl (HS2.out.blk 0 rfl) rfl (enEv_one _) (by unfold maxLen; omega) (by omega) (Nat.zero_le _) ?_
    intro gP cP wP hown hgP hggP _ _
    have hS := (HS2.out.grown 1 rfl hown hgP (fun q e => by
      rcases hggP with h1 | h1
      · exact .inl (h1.trans e)
      · right; simp only [Value.ownBlock, Option.some.injEq] at e; rw [← e, h1]; exact Nat.le_refl _)).tail
    have hbd := HS2.out.get 1 rfl
    have HFr2 := Lib.hid (HFr.out.grown hgP (fun k e => .inr (by
      have h1 : gT = k := by simpa [Value.ownBlock] using e
      have h2 := HGT.out
      omega)))
    simp only [Act.put, List.setIfInBounds_toArray, List.set_cons_zero, List.set_cons_succ]
    refine ⟨⟨⟨_, (by exact Fr.from_drew (HFr2.out.mono (by simp)))⟩, rfl⟩, ?_⟩
    clear HS2 hown hgP hggP hbd HFr
    have r0 := (hS.blk 5 rfl).cell 0
    have r1 := (hS.blk 5 rfl).cell 1
    have f0 := (hS.blk 5 rfl).froz 0
    have f1 := (hS.blk 5 rfl).froz 1
    have s0 := (hS.blk 4 rfl).cell 0
    have s1 := (hS.blk 4 rfl).cell 1
    have s2 := (hS.blk 4 rfl).cell 2
    have g0 := (hS.blk 4 rfl).froz 0
    have g1 := (hS.blk 4 rfl).froz 1
    have g2 := (hS.blk 4 rfl).froz 2
    simp only [List.getElem?_cons_zero, List.getElem?_cons_succ] at r0 r1 s0 s1 s2
    have rl := (hS.blk 5 rfl).lt
    have sl := (hS.blk 4 rfl).lt
    have HS2 := Lib.hid hS
    clear hS
    refine step_pures (N := 3) [11] (by kernel_rfl) ?_
    simp only [theOps, nthOp, List.map_cons, List.map_nil, Array.getD_eq_getD_getElem?, List.getElem?_toArray, List.getElem?_cons_succ, List.getElem?_cons_zero, Option.getD_some]
    repeat (first | go_big_quiet_step (fail) | quiet_step (fail))
    refine wpQuiet_nil ?_
    refine step_keep (N := 2) 13 (by kernel_rfl) rfl ?_
    go_wp2_with fail
    refine ⟨⟨⟨_, (by exact Fr.from_drew (((HFr2.out.mono (by simp)).setCell (.inl (by simp)) _).setCell (.inl (by simp)) _))⟩, rfl⟩, ?_⟩
    refine step_hard (N := 1) 14 (by kernel_rfl) rfl ?_
    go_wp2_with fail
    refine step_pures (N := 0) [15] (by kernel_rfl) ?_
    simp only [theOps, nthOp, List.map_cons, List.map_nil, Array.getD_eq_getD_getElem?, List.getElem?_toArray, List.getElem?_cons_succ, List.getElem?_cons_zero, Option.getD_some]
    repeat (first | go_big_quiet_step (fail) | quiet_step (fail))
    refine wpQuiet_nil ?_
    refine step_done (by kernel_rfl) ?_
    go_wp2_with fail
    have h2 := ((((HS2.out.set 5 rfl 0 (.slice (some ⟨g5, 0, none⟩) cs.length c5)).set 5 rfl 1 (.slice (some ⟨gP, 0, none⟩) (tr.length + 1) cP)).set 4 rfl 0 (.int .u64 c1)).set 4 rfl 1 (.int .u64 c2)).set 4 rfl 2 (.bool false)
    have k0 := (h2.blk 5 rfl).cell 0
    have k1 := (h2.blk 5 rfl).cell 1
    have k2 := (h2.blk 4 rfl).cell 0
    have k3 := (h2.blk 4 rfl).cell 1
    have k4 := (h2.blk 4 rfl).cell 2
    simp only [List.set_cons_zero, List.set_cons_succ, List.getElem?_cons_succ, List.getElem?_cons_zero] at k0 k1 k2 k3 k4
    refine bodyPost_ret (v := .tuple #[.agg #[.slice (some ⟨g5, 0, none⟩) cs.length c5, .slice (some ⟨gP, 0, none⟩) (tr.length + 1) cP], .agg #[.int .u64 c1, .int .u64 c2, .bool false], .int .i64 0]) (by simp [results, Try.results13, go_sem, k0, k1, k2, k3, k4]) rfl ⟨_, _, rfl, ?_⟩
    have h3 := h2
    rw [show flat enEv tr ++ enEv ⟨who, ⟨2, a, ov, os, nv, ns⟩, ⟨c1, c2, false⟩⟩ = flat enEv (tr ++ [⟨who, ⟨2, a, ov, os, nv, ns⟩, ⟨c1, c2, false⟩⟩]) from by rw [flat_app, flat_one]] at h3
    exact sep_snd (sep_snd (sep_snd (sep_snd (sep_snd (sep_snd (sep_snd (sep_join h3 (by simp) (by simp))))))))
set_option maxHeartbeats 8000000 in
set_option maxRecDepth 100000 in
theorem rdo_d {w0 w : World} {R : List Thing} {vc vt : Value} {cs : List (Int × Int)} {tr : List Ev} (h : Sep w0 w (refT vc vt cs tr :: R)) (hc : cs.length ≤ 65536) (ht : tr.length ≤ 100000) (who : Int) (a ov os nv ns : Int) (he : err cs.length who ⟨2, a, ov, os, nv, ns⟩ = 0) (g1 : (cs.getD a.toNat (0, 0)).1 = ov) (g2 : (cs.getD a.toNat (0, 0)).2 = os) :
    Calls Try.prog 13 #[.agg #[vc, vt], .int .i64 who, opV ⟨2, a, ov, os, nv, ns⟩] w fun e w' => ∃ vc' vt', e = .returned (.tuple #[.agg #[vc', vt'], outV (outOf (cs.getD a.toNat (0, 0)) ⟨2, a, ov, os, nv, ns⟩), .int .i64 0]) ∧
      Sep w0 w' (refT vc' vt' (cs.set a.toNat (becomes (cs.getD a.toNat (0, 0)) ⟨2, a, ov, os, nv, ns⟩)) (tr ++ [⟨who, ⟨2, a, ov, os, nv, ns⟩, outOf (cs.getD a.toNat (0, 0)) ⟨2, a, ov, os, nv, ns⟩⟩]) :: R) := by
  obtain ⟨i0, hi0, hz0, hz1, hz2⟩ := info_parts C_infoCell
  obtain ⟨j0, hj0, hy0, hy1, hy2⟩ := info_parts C_infoEvent
  obtain ⟨_, _, _, _, a0, an⟩ := err_zero he
  dsimp only at a0 an
  obtain ⟨a, rfl⟩ : ∃ n : Nat, a = n := ⟨a.toNat, by omega⟩
  rw [Int.toNat_natCast]
  have hal : a < cs.length := by omega
  have hai : (a : Int) < (cs.length : Int) := an
  obtain ⟨hr1, hr2⟩ := sep_ref h 0 rfl
  obtain ⟨g, lc, rfl, hgl, hgc⟩ : ∃ g n, vc = .slice (some ⟨g, 0, none⟩) cs.length n ∧ g < w.heap.size ∧ cs.length ≤ n := by
    rcases ownsRow_form hr1 with ⟨_, e⟩ | ⟨g, n, e, h1, _, h2, _⟩
    · omega
    · exact ⟨g, n, e, h1, h2⟩
  obtain ⟨ta, tc, rfl⟩ := ownsRow_any hr2
  have hcd : cs.getD a (0, 0) = cs[a] := by simp [List.getD_eq_getElem?_getD, hal]
  rw [hcd]
  rw [Int.toNat_natCast, hcd] at g1 g2
  have hf0 : (flat enC cs)[a * 2]? = some (.int .u64 cs[a].1) := by have := flat_get enC_len cs a hal 0 (by decide); simpa [enC] using this
  have hf1 : (flat enC cs)[a * 2 + 1]? = some (.int .u64 cs[a].2) := by have := flat_get enC_len cs a hal 1 (by decide); simpa [enC] using this
  have d0 := ownsRow_cell hr1 _ _ hf0
  have d1 := ownsRow_cell hr1 _ _ hf1
  have hset : ∀ u v : Int, ((flat enC cs).set (a * 2) (.int .u64 u)).set (a * 2 + 1) (.int .u64 v) = flat enC (cs.set a (u, v)) := by
    intro u v
    refine flat_ext enC_len _ (by simp [flat_length enC_len]) fun j hj q hq => ?_
    rw [List.length_set] at hj
    simp only [List.getElem_set]
    by_cases e : a = j
    · subst e
      rw [if_pos rfl]
      rcases (show q = 0 ∨ q = 1 by omega) with rfl | rfl
      · rw [List.getElem?_set_ne (by omega), Nat.add_zero, List.getElem?_set_self (by rw [flat_length enC_len]; omega)]; rfl
      · rw [List.getElem?_set_self (by rw [List.length_set, flat_length enC_len]; omega)]; rfl
    · rw [if_neg e, List.getElem?_set_ne (by omega), List.getElem?_set_ne (by omega), flat_get enC_len _ j hj q hq]
  have hyes : cs[a] = (ov, os) := Prod.ext g1 g2
  have hou : outOf cs[a] ⟨2, a, ov, os, nv, ns⟩ = ⟨cs[a].1, cs[a].2, true⟩ := by simp [outOf, hyes]
  clear hyes
  rw [hou]
  clear hou hcd hr1 hr2
  generalize hx : cs[a] = c at *
  obtain ⟨c1, c2⟩ := c
  have hv1 : (c1 == ov) = true := by simpa using g1
  have hv2 : (c2 == os) = true := by simpa using g2
  clear g1 g2
  obtain ⟨⟨n1, n2⟩, hbe⟩ : ∃ q, becomes (c1, c2) ⟨2, a, ov, os, nv, ns⟩ = q := ⟨_, rfl⟩
  rw [hbe]
  have hS := (((h.new 31 [.slice (some ⟨g, 0, none⟩) cs.length lc, .slice ta tr.length tc]).new 37 [.int .i64 2, .int .i64 a, .int .u64 ov, .int .u64 os, .int .u64 nv, .int .u64 ns]).new 31 [.slice none 0 0, .slice none 0 0]).new 41 [.int .u64 0, .int .u64 0, .bool false]
  simp only [World.size_alloc] at hS
  have HS := Lib.hid hS; have HE := Lib.hid he; have HX := Lib.hid hx; have HBE := Lib.hid hbe; have HSET := Lib.hid hset; have HF0 := Lib.hid hf0; have HF1 := Lib.hid hf1
  clear hS h he hx hbe hset hf0 hf1 d0 d1
  unfold opV outV
  dsimp only
  go_enter Try.func13, Try.ntmps13
  go_wp2_with fail
  refine (rcheck_any _ _ cs.length lc _ who ⟨2, a, ov, os, nv, ns⟩ hc ⟨_, _, _, rfl⟩).mono ?_
  rintro e w1 ⟨rfl, hf⟩
  rw [HE.out]
  have hS := HS.out.fr0 hf
  have b0 := (hS.blk 2 rfl).cell 0
  have b1 := (hS.blk 2 rfl).cell 1
  have b2 := (hS.blk 2 rfl).cell 2
  have b3 := (hS.blk 2 rfl).cell 3
  have b4 := (hS.blk 2 rfl).cell 4
  have b5 := (hS.blk 2 rfl).cell 5
  have x0 := (hS.blk 3 rfl).cell 0
  have x1 := (hS.blk 3 rfl).cell 1
  simp only [List.getElem?_cons_zero, List.getElem?_cons_succ] at b0 b1 b2 b3 b4 b5 x0 x1
  have bl := (hS.blk 2 rfl).lt
  have xl := (hS.blk 3 rfl).lt
  have e0 := ownsRow_cell (sep_ref hS 4 rfl).1 _ _ HF0.out
  have e1 := ownsRow_cell (sep_ref hS 4 rfl).1 _ _ HF1.out
  have HS := Lib.hid hS
  clear hS hf HE
  go_wp2_with fail
  have hS := HS.out.new 35 [.int .u64 c1, .int .u64 c2]
  clear b0 b1 b2 b3 b4 b5 x0 x1 bl xl e0 e1
  have b0 := (hS.blk 3 rfl).cell 0
  have b1 := (hS.blk 3 rfl).cell 1
  have b2 := (hS.blk 3 rfl).cell 2
  have b3 := (hS.blk 3 rfl).cell 3
  have b4 := (hS.blk 3 rfl).cell 4
  have b5 := (hS.blk 3 rfl).cell 5
  have x0 := (hS.blk 4 rfl).cell 0
  have x1 := (hS.blk 4 rfl).cell 1
  simp only [List.getElem?_cons_zero, List.getElem?_cons_succ] at b0 b1 b2 b3 b4 b5 x0 x1
  have bl := (hS.blk 3 rfl).lt
  have xl := (hS.blk 4 rfl).lt
  have y0 := (hS.blk 0 rfl).cell 0
  have y1 := (hS.blk 0 rfl).cell 1
  simp only [List.getElem?_cons_zero, List.getElem?_cons_succ] at y0 y1
  have yl := (hS.blk 0 rfl).lt
  have HS := Lib.hid hS
  clear hS
  generalize hW2 : w1.alloc (.cells #[.int .u64 c1, .int .u64 c2] 35) = W2 at *
  clear hW2
  refine wp_region_fr [(1, [0, 1, 2, 3, 4, 5, 6, 7, 8, 9, 10]), (2, [11]), (3, [12])] [] (by kernel_rfl) (by kernel_rfl) ?_
  simp only [theOps, nthOp, List.map_cons, List.map_nil, Array.getD_eq_getD_getElem?, List.getElem?_toArray, List.getElem?_cons_succ, List.getElem?_cons_zero, Option.getD_some]
  repeat ((first | refine wpSegs_soft ?_ | refine wpSegs_pure ?_ | refine wpSegs_here ?_); (repeat (first | go_big_quiet_step (fail) | quiet_step (fail))); refine wpQuiet_nil ?_)
  refine wpSegs_keep ?_
  go_wp2_with fail
  refine ⟨⟨⟨_, (by exact Fr.from_drew ((Fr.refl _ _).alloc _).drew)⟩, rfl⟩, ?_⟩
  refine wpSegs_hard ?_
  go_wp2_with fail
  refine wpSegs_done ?_
  have hS := (sep_made (HS.out.new 41 [.int .u64 c1, .int .u64 c2, .bool true]) 35 2).drew
  simp only [World.size_alloc] at hS
  have HS3 := Lib.hid hS
  clear hS HS b0 b1 b2 b3 b4 b5 x0 x1 bl xl y0 y1 yl
  have hS := HS3.out
  have b0 := (hS.blk 5 rfl).cell 0
  have b1 := (hS.blk 5 rfl).cell 1
  have b2 := (hS.blk 5 rfl).cell 2
  have b3 := (hS.blk 5 rfl).cell 3
  have b4 := (hS.blk 5 rfl).cell 4
  have b5 := (hS.blk 5 rfl).cell 5
  have x0 := (hS.blk 6 rfl).cell 0
  have x1 := (hS.blk 6 rfl).cell 1
  simp only [List.getElem?_cons_zero, List.getElem?_cons_succ] at b0 b1 b2 b3 b4 b5 x0 x1
  have bl := (hS.blk 5 rfl).lt
  have xl := (hS.blk 6 rfl).lt
  clear hS
  have hcl : (cs.length : Int) ≤ 65536 := by omega
  go_wp2_with (at_builtin; go_must (refine wpList_append_row _ rfl _ _ 28 rfl 0 35 i0 _ 2 16 Try.underlying28 hi0 hz0 hz1 hz2 rfl (by decide) (W2.heap.size + 1) 0 0 [] rfl (HS3.out.row 0 rfl) 0 35 (.slice (some ⟨g, 0, none⟩) cs.length lc) cs.length (flat enC cs) rfl (sep_ref HS3.out 7 rfl).1 (flat_one_cell enC_one _) (by unfold maxLen; omega) (by omega) (Nat.zero_le _) ?_))
  intro g5 c5 w5 hown hg5 hgg hc1 hc2
  have hown' : w5.ownsRow 0 35 2 (.slice (some ⟨g5, 0, none⟩) cs.length c5) cs.length (flat enC cs) := by simpa using hown
  have hS := HS3.out.grown 0 rfl hown' hg5 (fun q e => by
    rcases hgg with h1 | h1
    · exact .inl (by rw [← e, h1]; rfl)
    · right; simp only [Value.ownBlock, Option.some.injEq] at e; rw [← e, h1]; simp)
  clear hown hown' hg5 hgg HS3 b0 b1 b2 b3 b4 b5 x0 x1 bl xl
  have b0 := (hS.blk 5 rfl).cell 0
  have b1 := (hS.blk 5 rfl).cell 1
  have b2 := (hS.blk 5 rfl).cell 2
  have b3 := (hS.blk 5 rfl).cell 3
  have b4 := (hS.blk 5 rfl).cell 4
  have b5 := (hS.blk 5 rfl).cell 5
  have x0 := (hS.blk 6 rfl).cell 0
  have x1 := (hS.blk 6 rfl).cell 1
  simp only [List.getElem?_cons_zero, List.getElem?_cons_succ] at b0 b1 b2 b3 b4 b5 x0 x1
  have bl := (hS.blk 5 rfl).lt
  have xl := (hS.blk 6 rfl).lt
  have y0 := (hS.blk 2 rfl).cell 0
  have y1 := (hS.blk 2 rfl).cell 1
  simp only [List.getElem?_cons_zero, List.getElem?_cons_succ] at y0 y1
  have yl := (hS.blk 2 rfl).lt
  have HS := Lib.hid hS
  clear hS
  go_wp2_with fail
  refine wp_region_fr [(1, [0, 1, 2, 3, 4]), (2, [5]), (0, [6]), (3, [7])] [] (by kernel_rfl) (by kernel_rfl) ?_
  simp only [theOps, nthOp, List.map_cons, List.map_nil, Array.getD_eq_getD_getElem?, List.getElem?_toArray, List.getElem?_cons_succ, List.getElem?_cons_zero, Option.getD_some]
  repeat ((first | refine wpSegs_soft ?_ | refine wpSegs_pure ?_ | refine wpSegs_here ?_); (repeat (first | go_big_quiet_step (fail) | quiet_step (fail))); refine wpQuiet_nil ?_)
  refine wpSegs_keep ?_
  go_wp2_with fail
  refine (becomes_any _ (c1, c2) ⟨2, a, ov, os, nv, ns⟩).mono ?_
  rintro e w6 ⟨rfl, hf⟩
  rw [HBE.out]
  have HF := Lib.hid hf
  have hS := HS.out.drew.fr0 hf
  clear hf b0 b1 b2 b3 b4 b5 x0 x1 bl xl y0 y1 yl HS
  have e0 := ownsRow_cell (hS.row 0 rfl) _ _ HF0.out
  have e1 := ownsRow_cell (hS.row 0 rfl) _ _ HF1.out
  have f0 := ownsRow_froz (hS.row 0 rfl) (a * 2)
  have f1 := ownsRow_froz (hS.row 0 rfl) (a * 2 + 1)
  have gl := (World.ownsRow.lt (hS.row 0 rfl) g5 rfl).2
  have HS := Lib.hid hS
  clear hS
  go_wp2_with fail
  refine ⟨⟨⟨_, (by exact HF.out)⟩, rfl⟩, ?_⟩
  repeat ((first | refine wpSegs_soft ?_ | refine wpSegs_pure ?_ | refine wpSegs_here ?_); (repeat (first | go_big_quiet_step (fail) | quiet_step (fail))); refine wpQuiet_nil ?_)
  refine wpSegs_hard ?_
  go_wp2_with fail
  refine wpSegs_done ?_
  have hS := (HS.out.setRow 0 rfl (a * 2) (.int .u64 n1)).setRow 0 rfl (a * 2 + 1) (.int .u64 n2)
  simp only [List.set_cons_zero] at hS
  rw [HSET.out] at hS
  generalize ((w6.setCell ⟨g5, a * 2, none⟩ (.int .u64 n1)).setCell ⟨g5, a * 2 + 1, none⟩ (.int .u64 n2)) = W8 at *
  clear HS HF e0 e1 f0 f1 gl
  have b0 := (hS.blk 5 rfl).cell 0
  have b1 := (hS.blk 5 rfl).cell 1
  have b2 := (hS.blk 5 rfl).cell 2
  have b3 := (hS.blk 5 rfl).cell 3
  have b4 := (hS.blk 5 rfl).cell 4
  have b5 := (hS.blk 5 rfl).cell 5
  have x0 := (hS.blk 6 rfl).cell 0
  have x1 := (hS.blk 6 rfl).cell 1
  simp only [List.getElem?_cons_zero, List.getElem?_cons_succ] at b0 b1 b2 b3 b4 b5 x0 x1
  have bl := (hS.blk 5 rfl).lt
  have xl := (hS.blk 6 rfl).lt
  have o0 := (hS.blk 1 rfl).cell 0
  have o1 := (hS.blk 1 rfl).cell 1
  have o2 := (hS.blk 1 rfl).cell 2
  simp only [List.getElem?_cons_zero, List.getElem?_cons_succ] at o0 o1 o2
  have ol := (hS.blk 1 rfl).lt
  have hne := sep_ne hS 1 4 (by decide) rfl rfl
  have hne2 := sep_ne hS 5 4 (by decide) rfl rfl
  have hne3 := sep_ne hS 6 4 (by decide) rfl rfl
  have hne5 := sep_ne hS 3 4 (by decide) rfl rfl
  have HS := Lib.hid hS
  clear hS
  have hti : (tr.length : Int) ≤ 100000 := by omega
  generalize w.heap.size + 1 + 1 + 1 = B41 at *
  generalize w.heap.size + 1 + 1 = B31 at *
  generalize w.heap.size + 1 = Bop at *
  generalize w.heap.size = Bx at *
  generalize W2.heap.size = Bo at *
  go_wp2_with fail
  refine step_start ([1, 4, 9, 10, 13], [14]) [B31] (by kernel_rfl) ?_
  refine step_reads (N := 8) [0, 2, 3, 5, 6, 7, 8, 12] (by kernel_rfl) ⟨⟨_, Fr.refl _ _⟩, rfl⟩ ?_
  simp only [theOps, nthOp, List.map_cons, List.map_nil, Array.getD_eq_getD_getElem?, List.getElem?_toArray, List.getElem?_cons_succ, List.getElem?_cons_zero, Option.getD_some]
  repeat (first | go_big_quiet_step (fail) | quiet_step (fail))
  refine wpQuiet_nil ?_
  clear b0 b1 b2 b3 b4 b5 x0 x1 bl xl o0 o1 o2 ol
  refine step_two (N := 7) 1 9 (by kernel_rfl) rfl rfl ?_ ?_
  · go_wp2_with fail
    have hS := (sep_made HS.out 57 10).drew
    have HFr := Lib.hid (show Fr [] W8 _ from ((Fr.refl [] W8).alloc (.cells #[] 57)).drew)
    refine ⟨⟨⟨_, (by exact Fr.from_drew (HFr.out.mono (by simp)))⟩, rfl⟩, ?_⟩
    have HS2 := Lib.hid hS
    clear hS HS
    refine step_two (N := 6) 4 9 (by kernel_rfl) rfl rfl ?_ ?_
    · skip
      refine wpList_append_row _ rfl _ _ 29 rfl 0 57 j0 _ 10 80 Try.underlying29 hj0 hy0 hy1 hy2 rfl (by decide) (W8.heap.size) 0 0 [] rfl (HS2.out.row 0 rfl) 0 57 (.slice ta tr.length tc) tr.length (flat enEv tr) rfl (sep_ref HS2.out 8 rfl).2 (flat_one_cell enEv_one _) (by unfold maxLen; omega) (by omega) (Nat.zero_le _) ?_
      intro gT cT wT hown hgT hggT hcT1 hcT2
      simp only [Nat.zero_add, List.nil_append] at hown hcT1
      rw [Nat.zero_add]
      have hS := HS2.out.grown 0 rfl hown hgT (fun q e => by
        rcases hggT with h1 | h1
        · exact .inl (by rw [← e, h1]; rfl)
        · right; simp only [Value.ownBlock, Option.some.injEq] at e; rw [← e, h1]; simp)
      have HFr2 := Lib.hid (HFr.out.grown hgT (fun k e => .inr (by simp at e; omega)))
      have HGT := Lib.hid (show W8.heap.size ≤ gT from by
        rcases hggT with h1 | h1
        · omega
        · rw [h1]; simp <;> omega)
      simp only [Act.put, List.setIfInBounds_toArray, List.set_cons_zero, List.set_cons_succ]
      refine ⟨⟨⟨_, (by exact Fr.from_drew (HFr2.out.mono (by simp)))⟩, rfl⟩, ?_⟩
      clear HS2 hown hgT hggT hcT1 hcT2 HFr
      have HS2 := Lib.hid hS
      have HFr := HFr2
      clear hS HFr2
      refine step_keep (N := 5) 9 (by kernel_rfl) rfl ?_
      go_wp2_with fail
      have hS := HS2.out.new 57 (enEv ⟨who, ⟨2, a, ov, os, nv, ns⟩, ⟨c1, c2, true⟩⟩)
      have HFr2 := Lib.hid (HFr.out.alloc (.cells (enEv ⟨who, ⟨2, a, ov, os, nv, ns⟩, ⟨c1, c2, true⟩⟩).toArray 57))
      refine ⟨⟨⟨_, (by exact Fr.from_drew (HFr2.out.mono (by simp)))⟩, rfl⟩, ?_⟩
      clear HS2 HFr
      have HS2 := Lib.hid hS
      have HFr := HFr2
      clear hS HFr2
      refine step_keep (N := 4) 10 (by kernel_rfl) rfl ?_
      refine wpList_push_blk _ rfl _ _ 29 rfl 0 57 j0 _ 10 80 Try.underlying29 hj0 hy0 hy1 hy2 rfl (by decide) (.slice (some ⟨gT, 0, none⟩) tr.length cT) tr.length (flat enEv tr) rfl (HS2.out.row 1 rfl) (enEv ⟨who, ⟨2, a, ov, os, nv, ns⟩, ⟨c1, c2, true⟩⟩) _ _ rfl (HS2.out.blk 0 rfl) rfl (enEv_one _) (by unfold maxLen; omega) (by omega) (Nat.zero_le _) ?_
      intro gP cP wP hown hgP hggP _ _
      have hS := (HS2.out.grown 1 rfl hown hgP (fun q e => by
        rcases hggP with h1 | h1
        · exact .inl (h1.trans e)
        · right; simp only [Value.ownBlock, Option.some.injEq] at e; rw [← e, h1]; exact Nat.le_refl _)).tail
      have hbd := HS2.out.get 1 rfl
      have HFr2 := Lib.hid (HFr.out.grown hgP (fun k e => .inr (by
        have h1 : gT = k := by simpa [Value.ownBlock] using e
        have h2 := HGT.out
        omega)))
      simp only [Act.put, List.setIfInBounds_toArray, List.set_cons_zero, List.set_cons_succ]
      refine ⟨⟨⟨_, (by exact Fr.from_drew (HFr2.out.mono (by simp)))⟩, rfl⟩, ?_⟩
      clear HS2 hown hgP hggP hbd HFr
      have r0 := (hS.blk 5 rfl).cell 0
      have r1 := (hS.blk 5 rfl).cell 1
      have f0 := (hS.blk 5 rfl).froz 0
      have f1 := (hS.blk 5 rfl).froz 1
      have s0 := (hS.blk 4 rfl).cell 0
      have s1 := (hS.blk 4 rfl).cell 1
      have s2 := (hS.blk 4 rfl).cell 2
      have g0 := (hS.blk 4 rfl).froz 0
      have g1 := (hS.blk 4 rfl).froz 1
      have g2 := (hS.blk 4 rfl).froz 2
      simp only [List.getElem?_cons_zero, List.getElem?_cons_succ] at r0 r1 s0 s1 s2
      have rl := (hS.blk 5 rfl).lt
      have sl := (hS.blk 4 rfl).lt
      have HS2 := Lib.hid hS
      clear hS
      refine step_pures (N := 3) [11] (by kernel_rfl) ?_
      simp only [theOps, nthOp, List.map_cons, List.map_nil, Array.getD_eq_getD_getElem?, List.getElem?_toArray, List.getElem?_cons_succ, List.getElem?_cons_zero, Option.getD_some]
      repeat (first | go_big_quiet_step (fail) | quiet_step (fail))
      refine wpQuiet_nil ?_
      refine step_keep (N := 2) 13 (by kernel_rfl) rfl ?_
      go_wp2_with fail
      refine ⟨⟨⟨_, (by exact Fr.from_drew (((HFr2.out.mono (by simp)).setCell (.inl (by simp)) _).setCell (.inl (by simp)) _))⟩, rfl⟩, ?_⟩
      refine step_hard (N := 1) 14 (by kernel_rfl) rfl ?_
      go_wp2_with fail
      refine step_pures (N := 0) [15] (by kernel_rfl) ?_
      simp only [theOps, nthOp, List.map_cons, List.map_nil, Array.getD_eq_getD_getElem?, List.getElem?_toArray, List.getElem?_cons_succ, List.getElem?_cons_zero, Option.getD_some]
      repeat (first | go_big_quiet_step (fail) | quiet_step (fail))
      refine wpQuiet_nil ?_
      refine step_done (by kernel_rfl) ?_
      go_wp2_with fail
      have h2 := ((((HS2.out.set 5 rfl 0 (.slice (some ⟨g5, 0, none⟩) cs.length c5)).set 5 rfl 1 (.slice (some ⟨gP, 0, none⟩) (tr.length + 1) cP)).set 4 rfl 0 (.int .u64 c1)).set 4 rfl 1 (.int .u64 c2)).set 4 rfl 2 (.bool true)
      have k0 := (h2.blk 5 rfl).cell 0
      have k1 := (h2.blk 5 rfl).cell 1
      have k2 := (h2.blk 4 rfl).cell 0
      have k3 := (h2.blk 4 rfl).cell 1
      have k4 := (h2.blk 4 rfl).cell 2
      simp only [List.set_cons_zero, List.set_cons_succ, List.getElem?_cons_succ, List.getElem?_cons_zero] at k0 k1 k2 k3 k4
      refine bodyPost_ret (v := .tuple #[.agg #[.slice (some ⟨g5, 0, none⟩) cs.length c5, .slice (some ⟨gP, 0, none⟩) (tr.length + 1) cP], .agg #[.int .u64 c1, .int .u64 c2, .bool true], .int .i64 0]) (by simp [results, Try.results13, go_sem, k0, k1, k2, k3, k4]) rfl ⟨_, _, rfl, ?_⟩
      have h3 := h2
      rw [show flat enEv tr ++ enEv ⟨who, ⟨2, a, ov, os, nv, ns⟩, ⟨c1, c2, true⟩⟩ = flat enEv (tr ++ [⟨who, ⟨2, a, ov, os, nv, ns⟩, ⟨c1, c2, true⟩⟩]) from by rw [flat_app, flat_one]] at h3
      exact sep_snd (sep_snd (sep_snd (sep_snd (sep_snd (sep_snd (sep_snd (sep_join h3 (by simp) (by simp))))))))
    · go_wp2_with fail
      have hS : Sep w0 ((W8.alloc (.cells #[] 57)).alloc (.cells (enEv ⟨who, ⟨2, a, ov, os, nv, ns⟩, ⟨c1, c2, true⟩⟩).toArray 57)).drew _ := HS2.out.new 57 (enEv ⟨who, ⟨2, a, ov, os, nv, ns⟩, ⟨c1, c2, true⟩⟩)
      simp only [World.size_drew, World.size_alloc] at hS
      have HFr2 := Lib.hid (show Fr [] W8 _ from (((Fr.refl [] W8).alloc (.cells #[] 57)).alloc (.cells (enEv ⟨who, ⟨2, a, ov, os, nv, ns⟩, ⟨c1, c2, true⟩⟩).toArray 57)).drew)
      refine ⟨⟨⟨_, (by exact Fr.from_drew (HFr2.out.mono (by simp)))⟩, rfl⟩, ?_⟩
      clear HS2 HFr
      have HS2 := Lib.hid hS
      have HFr := HFr2
      clear hS HFr2
      refine step_keep (N := 5) 4 (by kernel_rfl) rfl ?_
      refine wpList_append_row _ rfl _ _ 29 rfl 0 57 j0 _ 10 80 Try.underlying29 hj0 hy0 hy1 hy2 rfl (by decide) (W8.heap.size) 0 0 [] rfl (HS2.out.row 1 rfl) 0 57 (.slice ta tr.length tc) tr.length (flat enEv tr) rfl (sep_ref HS2.out 9 rfl).2 (flat_one_cell enEv_one _) (by unfold maxLen; omega) (by omega) (Nat.zero_le _) ?_
      intro gT cT wT hown hgT hggT hcT1 hcT2
      simp only [Nat.zero_add, List.nil_append] at hown hcT1
      rw [Nat.zero_add]
      have hS := HS2.out.grown 1 rfl hown hgT (fun q e => by
        rcases hggT with h1 | h1
        · exact .inl (by rw [← e, h1]; rfl)
        · right; simp only [Value.ownBlock, Option.some.injEq] at e; rw [← e, h1]; simp)
      have HFr2 := Lib.hid (HFr.out.grown hgT (fun k e => .inr (by simp at e; omega)))
      have HGT := Lib.hid (show W8.heap.size ≤ gT from by
        rcases hggT with h1 | h1
        · omega
        · rw [h1]; simp <;> omega)
      simp only [Act.put, List.setIfInBounds_toArray, List.set_cons_zero, List.set_cons_succ]
      refine ⟨⟨⟨_, (by exact Fr.from_drew (HFr2.out.mono (by simp)))⟩, rfl⟩, ?_⟩
      clear HS2 hown hgT hggT hcT1 hcT2 HFr
      have HS2 := Lib.hid hS
      have HFr := HFr2
      clear hS HFr2
      refine step_keep (N := 4) 10 (by kernel_rfl) rfl ?_
      refine wpList_push_blk _ rfl _ _ 29 rfl 0 57 j0 _ 10 80 Try.underlying29 hj0 hy0 hy1 hy2 rfl (by decide) (.slice (some ⟨gT, 0, none⟩) tr.length cT) tr.length (flat enEv tr) rfl (HS2.out.row 1 rfl) (enEv ⟨who, ⟨2, a, ov, os, nv, ns⟩, ⟨c1, c2, true⟩⟩) _ _ rfl (HS2.out.blk 0 rfl) rfl (enEv_one _) (by unfold maxLen; omega) (by omega) (Nat.zero_le _) ?_
      intro gP cP wP hown hgP hggP _ _
      have hS := (HS2.out.grown 1 rfl hown hgP (fun q e => by
        rcases hggP with h1 | h1
        · exact .inl (h1.trans e)
        · right; simp only [Value.ownBlock, Option.some.injEq] at e; rw [← e, h1]; exact Nat.le_refl _)).tail
      have hbd := HS2.out.get 1 rfl
      have HFr2 := Lib.hid (HFr.out.grown hgP (fun k e => .inr (by
        have h1 : gT = k := by simpa [Value.ownBlock] using e
        have h2 := HGT.out
        omega)))
      simp only [Act.put, List.setIfInBounds_toArray, List.set_cons_zero, List.set_cons_succ]
      refine ⟨⟨⟨_, (by exact Fr.from_drew (HFr2.out.mono (by simp)))⟩, rfl⟩, ?_⟩
      clear HS2 hown hgP hggP hbd HFr
      have r0 := (hS.blk 5 rfl).cell 0
      have r1 := (hS.blk 5 rfl).cell 1
      have f0 := (hS.blk 5 rfl).froz 0
      have f1 := (hS.blk 5 rfl).froz 1
      have s0 := (hS.blk 4 rfl).cell 0
      have s1 := (hS.blk 4 rfl).cell 1
      have s2 := (hS.blk 4 rfl).cell 2
      have g0 := (hS.blk 4 rfl).froz 0
      have g1 := (hS.blk 4 rfl).froz 1
      have g2 := (hS.blk 4 rfl).froz 2
      simp only [List.getElem?_cons_zero, List.getElem?_cons_succ] at r0 r1 s0 s1 s2
      have rl := (hS.blk 5 rfl).lt
      have sl := (hS.blk 4 rfl).lt
      have HS2 := Lib.hid hS
      clear hS
      refine step_pures (N := 3) [11] (by kernel_rfl) ?_
      simp only [theOps, nthOp, List.map_cons, List.map_nil, Array.getD_eq_getD_getElem?, List.getElem?_toArray, List.getElem?_cons_succ, List.getElem?_cons_zero, Option.getD_some]
      repeat (first | go_big_quiet_step (fail) | quiet_step (fail))
      refine wpQuiet_nil ?_
      refine step_keep (N := 2) 13 (by kernel_rfl) rfl ?_
      go_wp2_with fail
      refine ⟨⟨⟨_, (by exact Fr.from_drew (((HFr2.out.mono (by simp)).setCell (.inl (by simp)) _).setCell (.inl (by simp)) _))⟩, rfl⟩, ?_⟩
      refine step_hard (N := 1) 14 (by kernel_rfl) rfl ?_
      go_wp2_with fail
      refine step_pures (N := 0) [15] (by kernel_rfl) ?_
      simp only [theOps, nthOp, List.map_cons, List.map_nil, Array.getD_eq_getD_getElem?, List.getElem?_toArray, List.getElem?_cons_succ, List.getElem?_cons_zero, Option.getD_some]
      repeat (first | go_big_quiet_step (fail) | quiet_step (fail))
      refine wpQuiet_nil ?_
      refine step_done (by kernel_rfl) ?_
      go_wp2_with fail
      have h2 := ((((HS2.out.set 5 rfl 0 (.slice (some ⟨g5, 0, none⟩) cs.length c5)).set 5 rfl 1 (.slice (some ⟨gP, 0, none⟩) (tr.length + 1) cP)).set 4 rfl 0 (.int .u64 c1)).set 4 rfl 1 (.int .u64 c2)).set 4 rfl 2 (.bool true)
      have k0 := (h2.blk 5 rfl).cell 0
      have k1 := (h2.blk 5 rfl).cell 1
      have k2 := (h2.blk 4 rfl).cell 0
      have k3 := (h2.blk 4 rfl).cell 1
      have k4 := (h2.blk 4 rfl).cell 2
      simp only [List.set_cons_zero, List.set_cons_succ, List.getElem?_cons_succ, List.getElem?_cons_zero] at k0 k1 k2 k3 k4
      refine bodyPost_ret (v := .tuple #[.agg #[.slice (some ⟨g5, 0, none⟩) cs.length c5, .slice (some ⟨gP, 0, none⟩) (tr.length + 1) cP], .agg #[.int .u64 c1, .int .u64 c2, .bool true], .int .i64 0]) (by simp [results, Try.results13, go_sem, k0, k1, k2, k3, k4]) rfl ⟨_, _, rfl, ?_⟩
      have h3 := h2
      rw [show flat enEv tr ++ enEv ⟨who, ⟨2, a, ov, os, nv, ns⟩, ⟨c1, c2, true⟩⟩ = flat enEv (tr ++ [⟨who, ⟨2, a, ov, os, nv, ns⟩, ⟨c1, c2, true⟩⟩]) from by rw [flat_app, flat_one]] at h3
      exact sep_snd (sep_snd (sep_snd (sep_snd (sep_snd (sep_snd (sep_snd (sep_join h3 (by simp) (by simp))))))))
  · go_wp2_with fail
    have hS := (HS.out.new 57 (enEv ⟨who, ⟨2, a, ov, os, nv, ns⟩, ⟨c1, c2, true⟩⟩)).drew
    have HFr := Lib.hid (show Fr [] W8 _ from ((Fr.refl [] W8).alloc (.cells (enEv ⟨who, ⟨2, a, ov, os, nv, ns⟩, ⟨c1, c2, true⟩⟩).toArray 57)).drew)
    refine ⟨⟨⟨_, (by exact Fr.from_drew (HFr.out.mono (by simp)))⟩, rfl⟩, ?_⟩
    have HS2 := Lib.hid hS
    clear hS HS
    refine step_keep (N := 6) 1 (by kernel_rfl) rfl ?_
    go_wp2_with fail
    have hS : Sep w0 ((W8.alloc (.cells (enEv ⟨who, ⟨2, a, ov, os, nv, ns⟩, ⟨c1, c2, true⟩⟩).toArray 57)).alloc (.cells #[] 57)).drew _ := (sep_made HS2.out 57 10).pull 1 rfl
    simp only [World.size_drew, World.size_alloc, List.eraseIdx_cons_succ, List.eraseIdx_cons_zero] at hS
    have HFr2 := Lib.hid (show Fr [] W8 _ from (((Fr.refl [] W8).alloc (.cells (enEv ⟨who, ⟨2, a, ov, os, nv, ns⟩, ⟨c1, c2, true⟩⟩).toArray 57)).alloc (.cells #[] 57)).drew)
    refine ⟨⟨⟨_, (by exact Fr.from_drew (HFr2.out.mono (by simp)))⟩, rfl⟩, ?_⟩
    clear HS2 HFr
    have HS2 := Lib.hid hS
    have HFr := HFr2
    clear hS HFr2
    refine step_keep (N := 5) 4 (by kernel_rfl) rfl ?_
    refine wpList_append_row _ rfl _ _ 29 rfl 0 57 j0 _ 10 80 Try.underlying29 hj0 hy0 hy1 hy2 rfl (by decide) (W8.heap.size + 1) 0 0 [] rfl (HS2.out.row 1 rfl) 0 57 (.slice ta tr.length tc) tr.length (flat enEv tr) rfl (sep_ref HS2.out 9 rfl).2 (flat_one_cell enEv_one _) (by unfold maxLen; omega) (by omega) (Nat.zero_le _) ?_
    intro gT cT wT hown hgT hggT hcT1 hcT2
    simp only [Nat.zero_add, List.nil_append] at hown hcT1
    rw [Nat.zero_add]
    have hS := HS2.out.grown 1 rfl hown hgT (fun q e => by
      rcases hggT with h1 | h1
      · exact .inl (by rw [← e, h1]; rfl)
      · right; simp only [Value.ownBlock, Option.some.injEq] at e; rw [← e, h1]; simp)
    have HFr2 := Lib.hid (HFr.out.grown hgT (fun k e => .inr (by simp at e; omega)))
    have HGT := Lib.hid (show W8.heap.size ≤ gT from by
      rcases hggT with h1 | h1
      · omega
      · rw [h1]; simp <;> omega)
    simp only [Act.put, List.setIfInBounds_toArray, List.set_cons_zero, List.set_cons_succ]
    refine ⟨⟨⟨_, (by exact Fr.from_drew (HFr2.out.mono (by simp)))⟩, rfl⟩, ?_⟩
    clear HS2 hown hgT hggT hcT1 hcT2 HFr
    have HS2 := Lib.hid hS
    have HFr := HFr2
    clear hS HFr2
    refine step_keep (N := 4) 10 (by kernel_rfl) rfl ?_
    refine wpList_push_blk _ rfl _ _ 29 rfl 0 57 j0 _ 10 80 Try.underlying29 hj0 hy0 hy1 hy2 rfl (by decide) (.slice (some ⟨gT, 0, none⟩) tr.length cT) tr.length (flat enEv tr) rfl (HS2.out.row 1 rfl) (enEv ⟨who, ⟨2, a, ov, os, nv, ns⟩, ⟨c1, c2, true⟩⟩) _ _ rfl (HS2.out.blk 0 rfl) rfl (enEv_one _) (by unfold maxLen; omega) (by omega) (Nat.zero_le _) ?_
    intro gP cP wP hown hgP hggP _ _
    have hS := (HS2.out.grown 1 rfl hown hgP (fun q e => by
      rcases hggP with h1 | h1
      · exact .inl (h1.trans e)
      · right; simp only [Value.ownBlock, Option.some.injEq] at e; rw [← e, h1]; exact Nat.le_refl _)).tail
    have hbd := HS2.out.get 1 rfl
    have HFr2 := Lib.hid (HFr.out.grown hgP (fun k e => .inr (by
      have h1 : gT = k := by simpa [Value.ownBlock] using e
      have h2 := HGT.out
      omega)))
    simp only [Act.put, List.setIfInBounds_toArray, List.set_cons_zero, List.set_cons_succ]
    refine ⟨⟨⟨_, (by exact Fr.from_drew (HFr2.out.mono (by simp)))⟩, rfl⟩, ?_⟩
    clear HS2 hown hgP hggP hbd HFr
    have r0 := (hS.blk 5 rfl).cell 0
    have r1 := (hS.blk 5 rfl).cell 1
    have f0 := (hS.blk 5 rfl).froz 0
    have f1 := (hS.blk 5 rfl).froz 1
    have s0 := (hS.blk 4 rfl).cell 0
    have s1 := (hS.blk 4 rfl).cell 1
    have s2 := (hS.blk 4 rfl).cell 2
    have g0 := (hS.blk 4 rfl).froz 0
    have g1 := (hS.blk 4 rfl).froz 1
    have g2 := (hS.blk 4 rfl).froz 2
    simp only [List.getElem?_cons_zero, List.getElem?_cons_succ] at r0 r1 s0 s1 s2
    have rl := (hS.blk 5 rfl).lt
    have sl := (hS.blk 4 rfl).lt
    have HS2 := Lib.hid hS
    clear hS
    refine step_pures (N := 3) [11] (by kernel_rfl) ?_
    simp only [theOps, nthOp, List.map_cons, List.map_nil, Array.getD_eq_getD_getElem?, List.getElem?_toArray, List.getElem?_cons_succ, List.getElem?_cons_zero, Option.getD_some]
    repeat (first | go_big_quiet_step (fail) | quiet_step (fail))
    refine wpQuiet_nil ?_
    refine step_keep (N := 2) 13 (by kernel_rfl) rfl ?_
    go_wp2_with fail
    refine ⟨⟨⟨_, (by exact Fr.from_drew (((HFr2.out.mono (by simp)).setCell (.inl (by simp)) _).setCell (.inl (by simp)) _))⟩, rfl⟩, ?_⟩
    refine step_hard (N := 1) 14 (by kernel_rfl) rfl ?_
    go_wp2_with fail
    refine step_pures (N := 0) [15] (by kernel_rfl) ?_
    simp only [theOps, nthOp, List.map_cons, List.map_nil, Array.getD_eq_getD_getElem?, List.getElem?_toArray, List.getElem?_cons_succ, List.getElem?_cons_zero, Option.getD_some]
    repeat (first | go_big_quiet_step (fail) | quiet_step (fail))
    refine wpQuiet_nil ?_
    refine step_done (by kernel_rfl) ?_
    go_wp2_with fail
    have h2 := ((((HS2.out.set 5 rfl 0 (.slice (some ⟨g5, 0, none⟩) cs.length c5)).set 5 rfl 1 (.slice (some ⟨gP, 0, none⟩) (tr.length + 1) cP)).set 4 rfl 0 (.int .u64 c1)).set 4 rfl 1 (.int .u64 c2)).set 4 rfl 2 (.bool true)
    have k0 := (h2.blk 5 rfl).cell 0
    have k1 := (h2.blk 5 rfl).cell 1
    have k2 := (h2.blk 4 rfl).cell 0
    have k3 := (h2.blk 4 rfl).cell 1
    have k4 := (h2.blk 4 rfl).cell 2
    simp only [List.set_cons_zero, List.set_cons_succ, List.getElem?_cons_succ, List.getElem?_cons_zero] at k0 k1 k2 k3 k4
    refine bodyPost_ret (v := .tuple #[.agg #[.slice (some ⟨g5, 0, none⟩) cs.length c5, .slice (some ⟨gP, 0, none⟩) (tr.length + 1) cP], .agg #[.int .u64 c1, .int .u64 c2, .bool true], .int .i64 0]) (by simp [results, Try.results13, go_sem, k0, k1, k2, k3, k4]) rfl ⟨_, _, rfl, ?_⟩
    have h3 := h2
    rw [show flat enEv tr ++ enEv ⟨who, ⟨2, a, ov, os, nv, ns⟩, ⟨c1, c2, true⟩⟩ = flat enEv (tr ++ [⟨who, ⟨2, a, ov, os, nv, ns⟩, ⟨c1, c2, true⟩⟩]) from by rw [flat_app, flat_one]] at h3
    exact sep_snd (sep_snd (sep_snd (sep_snd (sep_snd (sep_snd (sep_snd (sep_join h3 (by simp) (by simp))))))))
/-- **The document's step.** -/
theorem rdo_any {w0 w : World} {R : List Thing} {vc vt : Value} {cs : List (Int × Int)} {tr : List Ev} (h : Sep w0 w (refT vc vt cs tr :: R)) (hc : cs.length ≤ 65536) (ht : tr.length ≤ 100000) (who : Int) (op : Op6) (st : List Int) :
    Calls Try.prog 13 #[.agg #[vc, vt], .int .i64 who, opV op] w fun e w' => ∃ vc' vt', e = .returned (.tuple #[.agg #[vc', vt'], outV (M.told ⟨cs, st, tr⟩ who op), .int .i64 (err cs.length who op)]) ∧
      Sep w0 w' (refT vc' vt' (M.step ⟨cs, st, tr⟩ who op).cells (M.step ⟨cs, st, tr⟩ who op).trace :: R) := by
  unfold M.told M.step
  by_cases he : err cs.length who op = 0
  · rw [if_pos he, if_pos he, he]
    obtain ⟨k, a, ov, os, nv, ns⟩ := op
    by_cases hk : k = 2
    · subst hk
      by_cases g1 : (cs.getD a.toNat (0, 0)).1 = ov
      · by_cases g2 : (cs.getD a.toNat (0, 0)).2 = os
        · exact rdo_d h hc ht who a ov os nv ns he g1 g2
        · exact rdo_c h hc ht who a ov os nv ns he g1 g2
      · exact rdo_b h hc ht who a ov os nv ns he g1
    · exact rdo_a h hc ht who k a ov os nv ns he hk
  · rw [if_neg he, if_neg he]
    exact (rdo_err h hc who op he).mono fun _ _ ⟨h1, h2⟩ => ⟨vc, vt, h1, h2⟩
end Go.Proofs.Ytbgmcekbldponaa
