/- Chapter 12: a memory in which a transaction is being done. -/
import Derived.Test.YtccioehckfdjdaaYboot
import Derived.Test.YtccioehckfdjdaaCfun
import Derived.Test.YtccioehckfdjdaaCdo
import Derived.Test.YtccioehckfdjdaaJoin
import Derived.Test.YtccioehckfdjdaaHw
import Derived.Test.YtccioehckfdjdaaScw
import Derived.Test.YtccioehckfdjdaaLoad2
import Derived.Deep.LoopGhost
set_option linter.unusedSimpArgs false
set_option linter.unusedVariables false
namespace Go.Tum.H
open Go.Tum.Y Go.Tum.C Go.Proofs.Ytccioehckfdjdaa
def bootM (c : Cfg) : M := ⟨bootL c, List.replicate 8 0, []⟩
def logM (c : Cfg) (owner : Int) (L : List (Int × Int)) : Nat → M
  | 0 => bootM c
  | k + 1 => M.put (logM c owner L k) (at_ c 6 owner k) ((L.getD k (0, 0)).2, IntKind.u64.wrap (L.getD k (0, 0)).1)
def laidM (c : Cfg) (owner seq : Int) (L : List (Int × Int)) : M :=
  M.put (M.put (logM c owner L L.length) (at_ c 5 owner 0) ((L.length : Int), 0)) (at_ c 4 owner 0) (1, seq)
end Go.Tum.H
namespace Go.Proofs.Ytccioehckfdjdaa
open Go.RowKit Go.Tum Go.Tum.Y Go.Tum.Sc
theorem boot_mem (w : World) (c : Cfg) (h : Ok c) : Calls Try.prog 83 #[mapV c] w fun e w' => ∃ b, e = .returned (.pointer (some ⟨b, 0, none⟩)) ∧ Sep w w' [memT b (H.bootM c)] := by
  obtain ⟨r0, r1, r2, r3, r4, r5, r6, r7, r8, r9, r10, r11, r12⟩ := row h
  have hl : (bootL c).length = (size c).toNat := bootK_len c _
  have hsz : (size c).toNat ≤ 65536 := by omega
  refine (boot_any w c h).mono ?_
  rintro e w' ⟨b, g, cap, rfl, hS⟩
  refine ⟨b, rfl, ?_⟩
  have h1 := (hS.nilRow 0 134 10).sub (Ts' := [_, _, _]) [1, 2, 0] rfl (by decide)
  have h2 := (h1.blk 0 rfl)
  have h3 := h1.row 1 rfl
  have h4 := h1.row 2 rfl
  have h5 := h1.toAnd
  obtain ⟨fp, hp, _, hk⟩ := h5.get 0 rfl
  have h6 := hk (memT b (H.bootM c)) w' fp ?_ (Fr.refl _ _) (fun q hq => .inl hq)
  · exact h6.sub [0] rfl (by decide)
  · obtain ⟨f, g2, rfl, ⟨rfl, hb⟩, ⟨rfl, hr⟩, hd⟩ := hp
    have hz : C.Good (H.bootM c) := by
      have hg := C.good_new 0
      refine ⟨?_, ?_⟩
      · exact hg.1
      · exact hg.2
    refine ⟨hz, _, _, rfl, hb, ?_, World.ownsRow_nil w' 0 _ 10, ?_, ?_, ?_, ?_, rfl⟩
    · show w'.ownsRow 0 _ 2 _ (bootL c).length (flat C.enC (bootL c))
      rw [hl]; exact hr
    · intro k hk2 e
      subst e
      exact hd k (by simp) (by simpa using hk2)
    · intro k hk2; simp [Value.ownBlock] at hk2
    · intro k _ hk2; simp [Value.ownBlock] at hk2
    · show (bootL c).length ≤ 65536
      omega
set_option maxRecDepth 100000 in
set_option maxHeartbeats 8000000 in
theorem laid_any (w : World) (c : Cfg) (hok : Ok c) (owner seq : Int) (a : Option Addr) (m lc : Nat) (L : List (Int × Int)) (hLm : m = L.length) (hL : ArgE enE 2 w (.slice a m lc) L) (hm : m ≤ 100000) :
    Calls Try.prog 70 #[mapV c, .int .i64 owner, .int .u64 seq, .slice a m lc] w fun e w' => ∃ b, e = .returned (.pointer (some ⟨b, 0, none⟩)) ∧ Sep w w' [memT b (H.laidM c owner seq L)] := by
  have HB := Lib.hid (fun w => boot_mem w c hok)
  have HAT := Lib.hid (fun w k i j => at_any w c hok k i j)
  have hsz : (mapCells c).length = 24 := rfl
  have hl0 : H.logM c owner L 0 = H.bootM c := rfl
  have hls : ∀ k, H.logM c owner L (k + 1) = M.put (H.logM c owner L k) (at_ c 6 owner k) ((L.getD k (0, 0)).2, IntKind.u64.wrap (L.getD k (0, 0)).1) := fun _ => rfl
  unfold H.laidM
  generalize H.logM c owner L = lm at *
  rw [← hl0] at HB
  rw [← hLm]
  have HLM := Lib.hid hLm; clear hLm
  have HLS := Lib.hid hls
  clear hls hl0
  have hmi : (m : Int) ≤ 100000 := by omega
  unfold mapV at *
  generalize mapCells c = cs at *
  have HS := Lib.hid ((Sep.nil (Fr.refl [] w)).new 31 cs)
  go_enter Try.func70, Try.ntmps70
  go_wp2_with (first | (refine wpList_load_any 31 _ rfl rfl _ 0 rfl cs _ (HS.out.blk 0 rfl).range Try.underlying31 rfl (by rw [hsz]; kernel_rfl) ?_))
  refine (HB.out _).mono ?_
  rintro e w1 ⟨b, rfl, hN⟩
  have hS := HS.out.append hN
  simp only [List.cons_append, List.nil_append] at hS
  have HS := Lib.hid hS; clear hS hN
  go_wp2_with fail
  go_loopg [16] m (fun g vi wr => ∃ k : Nat, g + k = m ∧ vi = .int .i64 (k : Int) ∧ Sep w wr [memT b (lm k), blkT w.heap.size 31 cs])
  case atStart => exact ⟨0, by omega, rfl, HS.out⟩
  case round =>
    clear HS
    obtain ⟨k, hg, rfl, hS⟩ := hrel
    by_cases hk : k < m
    · have hki : (k : Int) < (m : Int) := by omega
      have hkl : k < L.length := by have := HLM.out; omega
      obtain ⟨x, rfl, hx, e0, e1⟩ := (hL.fr hS.fr).at hkl
      have hgd : L.getD k (0, 0) = L[k] := by simp [List.getD_eq_getElem?_getD, List.getElem?_eq_getElem hkl]
      have hls := HLS.out k
      rw [hgd] at hls
      clear hgd
      generalize L[k] = E at *
      obtain ⟨E1, E2⟩ := E
      have y0 := e0 _ rfl
      have y1 := e1 0 _ rfl
      clear e0 e1
      have HLK := Lib.hid hls; clear hls
      have HS := Lib.hid (hS.new 136 [.int .i64 E1, .int .u64 E2]); clear hS
      have z0 := (HS.out.blk 0 rfl).cell 0
      have z1 := (HS.out.blk 0 rfl).cell 1
      have zl := (HS.out.blk 0 rfl).lt
      simp only [List.getElem?_cons_zero, List.getElem?_cons_succ] at z0 z1
      have hmd := (HS.out.blk 2 rfl).drew
      go_wp2_with fail
      refine wp_region_fr [(1, [0, 1, 2, 3, 5, 6, 7, 8, 9, 10]), (2, [4]), (3, [11])] [] (by kernel_rfl) (by kernel_rfl) ?_
      simp only [theOps, nthOp, List.map_cons, List.map_nil, Array.getD_eq_getD_getElem?, List.getElem?_toArray, List.getElem?_cons_succ, List.getElem?_cons_zero, Option.getD_some]
      refine wpSegs_soft ?_
      iterate 1 (first | go_big_quiet_step (fail) | quiet_step (fail))
      refine wpQuiet_load_mid 31 _ w.heap.size 0 cs _ rfl rfl rfl (rangeAt_after hmd (by simp)) Try.underlying31 rfl (by rw [hsz]; kernel_rfl) ?_
      simp only [Act.put, List.setIfInBounds_toArray, List.set_cons_zero, List.set_cons_succ]
      repeat (first | go_big_quiet_step (fail) | quiet_step (fail))
      refine wpQuiet_nil ?_
      refine wpSegs_keep ?_
      go_wp2_with fail
      refine (HAT.out _ _ _ _).mono ?_
      rintro e w2 ⟨rfl, hf⟩
      have HF := Lib.hid hf
      have HS := Lib.hid (HS.out.drew.fr0 hf)
      clear hf
      go_wp2_with fail
      refine ⟨⟨⟨_, (by exact HF.out)⟩, rfl⟩, ?_⟩
      repeat ((first | refine wpSegs_soft ?_ | refine wpSegs_pure ?_ | refine wpSegs_here ?_); (repeat (first | go_big_quiet_step (fail) | quiet_step (fail))); refine wpQuiet_nil ?_)
      refine wpSegs_hard ?_
      go_wp2_with fail
      refine (set_any (HS.out.pull 1 rfl) _ (E2, IntKind.u64.wrap E1)).mono ?_
      rintro e w3 ⟨rfl, hS⟩
      have HS := Lib.hid hS; clear hS
      go_wp2_with fail
      refine wpSegs_done ?_
      go_wp2_with fail
      go_roundg (m - (k + 1))
      case measure => omega
      case rel => exact ⟨k + 1, by omega, by go_num, by rw [HLK.out]; exact HS.out.sub [0, 2] rfl (by decide)⟩
    · obtain rfl : k = m := by omega
      have HS := Lib.hid hS; clear hS
      have hwk : IntKind.u64.wrap (k : Int) = (k : Int) := (by rw [IntKind.wrap_u64]; omega)
      go_wp2_with (refine wpList_load_any 31 _ rfl rfl _ 0 rfl cs _ (HS.out.blk 1 rfl).range Try.underlying31 rfl (by rw [hsz]; kernel_rfl) ?_)
      refine (HAT.out _ _ _ _).mono ?_
      rintro e w2 ⟨rfl, hf⟩
      have HS := Lib.hid (HS.out.fr0 hf); clear hf
      go_wp2_with fail
      refine (set_any HS.out _ ((k : Int), 0)).mono ?_
      rintro e w3 ⟨rfl, hS⟩
      have HS := Lib.hid hS; clear hS
      go_wp2_with (refine wpList_load_any 31 _ rfl rfl _ 0 rfl cs _ (HS.out.blk 1 rfl).range Try.underlying31 rfl (by rw [hsz]; kernel_rfl) ?_)
      refine (HAT.out _ _ _ _).mono ?_
      rintro e w4 ⟨rfl, hf⟩
      have HS := Lib.hid (HS.out.fr0 hf); clear hf
      go_wp2_with fail
      refine (set_any HS.out _ (1, seq)).mono ?_
      rintro e w5 ⟨rfl, hS⟩
      have HS := Lib.hid hS; clear hS
      go_wp2_with fail
      go_ret
      exact ⟨b, rfl, HS.out.sub [0] rfl (by decide)⟩
end Go.Proofs.Ytccioehckfdjdaa
