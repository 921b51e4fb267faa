/- The walk of Boot: the memory with which all begins. -/
import Derived.Test.YtccioehckfdjdaaYany
import Derived.Test.YtccioehckfdjdaaMini
import Derived.Deep.LoopGhost
set_option linter.unusedSimpArgs false
set_option linter.unusedVariables false
namespace Go.Tum.Y
def bootB (c : Cfg) : List (Int × Int) := ((List.replicate (size c).toNat ((0 : Int), (0 : Int))).set 0 (0, c.fi)).set (fTop c).toNat (c.b, 0)
/-- .. with so many blocks on the stack. -/
def bootK (c : Cfg) : Nat → List (Int × Int)
  | 0 => bootB c
  | k + 1 => (bootK c k).set ((fStack c).toNat + k) (c.b - 1 - k, 0)
def bootL (c : Cfg) : List (Int × Int) := bootK c c.b.toNat
theorem bootK_len (c : Cfg) : ∀ k, (bootK c k).length = (size c).toNat
  | 0 => by simp [bootK, bootB]
  | k + 1 => by rw [bootK, List.length_set, bootK_len c k]
theorem at_now {c : Cfg} (h : Ok c) : at_ c 0 0 0 = 0 := by unfold at_; rw [if_pos ⟨by omega, by simp [cnt], by omega, by simp [eachP, each]⟩]; simp [place]
theorem at_top {c : Cfg} (h : Ok c) : at_ c 12 0 0 = fTop c := by unfold at_; rw [if_pos ⟨by omega, by simp [cnt], by omega, by simp [eachP, each]⟩]; simp [place, fromP, each]
theorem at_stack {c : Cfg} (h : Ok c) {i : Int} (h0 : 0 ≤ i) (h1 : i < c.b) : at_ c 13 i 0 = fStack c + i := by
  have e1 : cnt c 13 = c.b := by simp [cnt]
  unfold at_; rw [if_pos ⟨by omega, by omega, by omega, by simp [eachP, each]⟩]; simp [place, fromP, each]
end Go.Tum.Y
namespace Go.Proofs.Ytccioehckfdjdaa
open Go.RowKit Go.Tum Go.Tum.Y
set_option maxHeartbeats 4000000 in
theorem boot_any (w : World) (c : Cfg) (h : Ok c) : Calls Try.prog 83 #[mapV c] w fun e w' => ∃ b g cap, e = .returned (.pointer (some ⟨b, 0, none⟩)) ∧ Sep w w' [blkT b 198 (memL g (size c).toNat cap), rowT 0 41 2 (.slice (some ⟨g, 0, none⟩) (size c).toNat cap) (size c).toNat (flat enC (bootL c))] := by
  have HZ := Lib.hid (fun w => msize_cs w (mapCells c) (size c) rfl rfl)
  have HA := Lib.hid (fun w => at_any w c h)
  obtain ⟨r0, r1, r2, r3, r4, r5, r6, r7, r8, r9, r10, r11, r12⟩ := row h
  have hb64 := h.b64
  obtain ⟨n, hn⟩ : ∃ n : Nat, (n : Int) = size c := ⟨(size c).toNat, by omega⟩
  have hn2 : (size c).toNat = n := by omega
  obtain ⟨kt, hkt⟩ : ∃ k : Nat, (k : Int) = fTop c := ⟨(fTop c).toNat, by omega⟩
  obtain ⟨ks, hks⟩ : ∃ k : Nat, (k : Int) = fStack c := ⟨(fStack c).toNat, by omega⟩
  obtain ⟨nb, hnb⟩ : ∃ k : Nat, (k : Int) = c.b := ⟨c.b.toNat, by omega⟩
  have HB0 := Lib.hid (show bootK c 0 = ((List.replicate n ((0 : Int), (0 : Int))).set 0 (0, c.fi)).set kt (c.b, 0) by
    unfold bootK bootB; rw [hn2, show (fTop c).toNat = kt by omega])
  have HBS := Lib.hid (show ∀ k, bootK c (k + 1) = (bootK c k).set (ks + k) (c.b - 1 - k, 0) by
    intro k; rw [bootK, show (fStack c).toNat = ks by omega])
  have HBL := Lib.hid (show bootL c = bootK c nb by unfold bootL; rw [show c.b.toNat = nb by omega])
  have HLE := Lib.hid (fun k => (bootK_len c k).trans hn2)
  have HAN := Lib.hid (at_now h)
  have HAT := Lib.hid ((at_top h).trans hkt.symm)
  have HAS := Lib.hid (show ∀ k : Nat, k < nb → at_ c 13 k 0 = ((ks + k : Nat) : Int) by
    intro k hk; rw [at_stack h (by omega) (by omega), ← hks]; omega)
  rw [hn2]
  have hn3 : n ≤ 65536 := by omega
  have hkn : kt < n := by omega
  have hksn : ks + nb ≤ n := by omega
  have hb1 : 1 ≤ nb ∧ nb ≤ 64 := by omega
  have hsz : (mapCells c).length = 24 := rfl
  have g0 : (mapCells c)[0]? = some (.int .i64 c.t) := rfl
  have g1 : (mapCells c)[1]? = some (.int .i64 c.b) := rfl
  have g4 : (mapCells c)[4]? = some (.int .u64 c.fi) := rfl
  unfold mapV at *
  have hS := (Sep.nil (Fr.refl [] w)).new 31 (mapCells c)
  generalize mapCells c = cs at *
  have HNB := Lib.hid hnb
  rw [← hnb] at *
  rw [← hn] at HZ
  clear h r0 r1 r2 r3 r4 r5 r6 r7 r8 r9 r10 r11 r12 hn hn2 hkt hks hb64
  have HM := Lib.hid (hS.blk 0 rfl)
  have HS := Lib.hid hS; clear hS
  go_enter Try.func83, Try.ntmps83
  go_wp2_with (refine wpList_load_any 31 _ rfl rfl _ 0 rfl cs _ HM.out.range Try.underlying31 rfl (by rw [hsz]; kernel_rfl) ?_)
  refine (HZ.out _).mono ?_
  rintro e w1 ⟨rfl, hf⟩
  have hS := HS.out.fr0 hf
  clear hf HM HS
  have HS := Lib.hid hS; clear hS
  go_wp2_with fail
  refine (mm_new w1 n hn3).mono ?_
  rintro e w2 ⟨b, g, cap, rfl, hN⟩
  have hS := HS.out.append hN
  clear hN HS
  simp only [List.cons_append, List.nil_append] at hS
  have m0 := ((hS.blk 2 rfl).cell 0).trans g0
  have m1 := ((hS.blk 2 rfl).cell 1).trans g1
  have m4 := ((hS.blk 2 rfl).cell 4).trans g4
  have hmd := (hS.blk 2 rfl).drew
  have HS := Lib.hid hS; clear hS
  go_wp2_with fail
  refine wp_region_fr [(1, [0, 1, 3, 4, 5, 6]), (2, [2]), (3, [7])] [] (by kernel_rfl) (by kernel_rfl) ?_
  simp only [theOps, nthOp, List.map_cons, List.map_nil, Array.getD_eq_getD_getElem?, List.getElem?_toArray, List.getElem?_cons_succ, List.getElem?_cons_zero, Option.getD_some]
  refine wpSegs_soft ?_
  iterate 1 (first | go_big_quiet_step (fail) | quiet_step (fail))
  refine wpQuiet_load_mid 31 _ w.heap.size 0 cs _ rfl rfl rfl (rangeAt_after hmd (by simp)) Try.underlying31 rfl (by rw [hsz]; kernel_rfl) ?_
  simp only [Act.put, List.setIfInBounds_toArray, List.set_cons_zero, List.set_cons_succ]
  repeat (first | go_big_quiet_step (fail) | quiet_step (fail))
  refine wpQuiet_nil ?_
  refine wpSegs_keep ?_
  go_wp2_with fail
  refine (HA.out _ _ _ _).mono ?_
  rintro e w3 ⟨rfl, hf⟩
  rw [HAN.out]
  have HF := Lib.hid hf; clear hf
  go_wp2_with fail
  refine ⟨⟨⟨_, (by exact HF.out)⟩, rfl⟩, ?_⟩
  refine wpSegs_hard ?_
  go_wp2_with fail
  refine (mm_setA (HS.out.drew.fr0 HF.out) (by simp) hn3 0 rfl (by omega) _ _).mono ?_
  rintro e w4 ⟨rfl, hS⟩
  clear HS HF m0 m1 m4 hmd
  have m0 := ((hS.blk 2 rfl).cell 0).trans g0
  have m1 := ((hS.blk 2 rfl).cell 1).trans g1
  have m4 := ((hS.blk 2 rfl).cell 4).trans g4
  have hmd := (hS.blk 2 rfl).drew
  have HS := Lib.hid hS; clear hS
  go_wp2_with fail
  refine wpSegs_done ?_
  go_wp2_with fail
  refine wp_region_fr [(1, [0, 1, 3, 4, 5, 6, 7]), (2, [2]), (3, [8])] [] (by kernel_rfl) (by kernel_rfl) ?_
  simp only [theOps, nthOp, List.map_cons, List.map_nil, Array.getD_eq_getD_getElem?, List.getElem?_toArray, List.getElem?_cons_succ, List.getElem?_cons_zero, Option.getD_some]
  refine wpSegs_soft ?_
  iterate 1 (first | go_big_quiet_step (fail) | quiet_step (fail))
  refine wpQuiet_load_mid 31 _ w.heap.size 0 cs _ rfl rfl rfl (rangeAt_after hmd (by simp)) Try.underlying31 rfl (by rw [hsz]; kernel_rfl) ?_
  simp only [Act.put, List.setIfInBounds_toArray, List.set_cons_zero, List.set_cons_succ]
  repeat (first | go_big_quiet_step (fail) | quiet_step (fail))
  refine wpQuiet_nil ?_
  refine wpSegs_keep ?_
  go_wp2_with fail
  refine (HA.out _ _ _ _).mono ?_
  rintro e w5 ⟨rfl, hf⟩
  rw [HAT.out]
  have HF := Lib.hid hf; clear hf
  go_wp2_with fail
  refine ⟨⟨⟨_, (by exact HF.out)⟩, rfl⟩, ?_⟩
  refine wpSegs_hard ?_
  go_wp2_with fail
  refine (mm_setA (HS.out.drew.fr0 HF.out) (by simp) hn3 kt rfl (by omega) _ _).mono ?_
  rintro e w6 ⟨rfl, hS⟩
  rw [← HB0.out] at hS
  clear HS HF m0 m1 m4 hmd
  have m0 := ((hS.blk 2 rfl).cell 0).trans g0
  have m1 := ((hS.blk 2 rfl).cell 1).trans g1
  have m4 := ((hS.blk 2 rfl).cell 4).trans g4
  have HS := Lib.hid hS; clear hS
  go_wp2_with fail
  refine wpSegs_done ?_
  go_wp2_with fail
  go_loopg [32] nb (fun gk vi wr => ∃ k, gk + k = nb ∧ vi = .int .i64 (k : Int) ∧ Sep w wr [blkT b 198 (memL g n cap), rowT 0 41 2 (.slice (some ⟨g, 0, none⟩) n cap) n (flat enC (bootK c k)), blkT w.heap.size 31 cs])
  case atStart => exact ⟨0, by omega, rfl, HS.out⟩
  case round =>
    clear HS
    obtain ⟨k, hg, rfl, hS⟩ := hrel
    clear m0 m1 m4
    have m0 := ((hS.blk 2 rfl).cell 0).trans g0
    have m1 := ((hS.blk 2 rfl).cell 1).trans g1
    have m4 := ((hS.blk 2 rfl).cell 4).trans g4
    have hmd := (hS.blk 2 rfl).drew
    have HS := Lib.hid hS; clear hS
    by_cases hk : k < nb
    · have hki : (k : Int) < (nb : Int) := by omega
      have hsub : 0 ≤ (nb : Int) - 1 - (k : Int) ∧ (nb : Int) - 1 - (k : Int) ≤ 64 := by omega
      have hkb : (k : Int) ≤ 64 := by omega
      go_wp2_with fail
      refine wp_region_fr [(1, [0, 1, 2, 4, 5, 6, 7, 8, 9, 10, 11]), (2, [3]), (3, [12])] [] (by kernel_rfl) (by kernel_rfl) ?_
      simp only [theOps, nthOp, List.map_cons, List.map_nil, Array.getD_eq_getD_getElem?, List.getElem?_toArray, List.getElem?_cons_succ, List.getElem?_cons_zero, Option.getD_some]
      refine wpSegs_soft ?_
      iterate 1 (first | go_big_quiet_step (fail) | quiet_step (fail))
      refine wpQuiet_load_mid 31 _ w.heap.size 0 cs _ rfl rfl rfl (rangeAt_after hmd (by simp)) Try.underlying31 rfl (by rw [hsz]; kernel_rfl) ?_
      simp only [Act.put, List.setIfInBounds_toArray, List.set_cons_zero, List.set_cons_succ]
      repeat (first | go_big_quiet_step (fail) | quiet_step (fail))
      refine wpQuiet_nil ?_
      refine wpSegs_keep ?_
      go_wp2_with fail
      refine (HA.out _ _ _ _).mono ?_
      rintro e w7 ⟨rfl, hf⟩
      rw [HAS.out k hk]
      have HF := Lib.hid hf; clear hf
      go_wp2_with fail
      refine ⟨⟨⟨_, (by exact HF.out)⟩, rfl⟩, ?_⟩
      refine wpSegs_hard ?_
      go_wp2_with fail
      refine (mm_setA (HS.out.drew.fr0 HF.out) (HLE.out k) hn3 (ks + k) (by omega) (by omega) _ _).mono ?_
      rintro e w8 ⟨rfl, hS⟩
      rw [← HBS.out k] at hS
      have HS2 := Lib.hid hS
      clear HS HF m0 m1 m4 hmd hS
      go_wp2_with fail
      refine wpSegs_done ?_
      go_wp2_with fail
      go_roundg (nb - (k + 1))
      case measure => omega
      case rel => exact ⟨k + 1, by omega, rfl, HS2.out⟩
    · obtain rfl : k = nb := by omega
      go_wp2_with fail
      go_ret
      rw [HBL.out]
      exact ⟨b, g, cap, rfl, HS.out.sub [0, 1] rfl (by decide)⟩
end Go.Proofs.Ytccioehckfdjdaa
