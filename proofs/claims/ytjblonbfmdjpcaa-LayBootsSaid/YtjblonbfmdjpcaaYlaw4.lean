/- The law LayBoots, walked. -/
import Derived.Test.YtjblonbfmdjpcaaYrboot
set_option linter.unusedSimpArgs false
set_option linter.unusedVariables false
namespace Go.Proofs.Ytjblonbfmdjpcaa
open Go.RowKit Go.Tum Go.Tum.Y
set_option maxRecDepth 100000 in
set_option maxHeartbeats 4000000 in
theorem boots_bad (w : World) (c : Cfg) (h : ¬ Ok c) : Calls Try.prog 7 #[cfgV c] w fun e w' => e = .returned (.bool true) ∧ Fr [] w w' := by
  have HO : Hid (∀ w, Calls Try.prog 9 #[.agg (cfgL c).toArray] w fun e w' => e = .returned (.tuple #[zeroV, .int .i64 1]) ∧ Fr [] w w') := fun w => of_bad w c h
  have hrc : right c = false := by unfold right; simpa using h
  have hszz : zeroMap.length = 24 := rfl
  have honez := oneZero
  unfold zeroV at HO
  have HS := Lib.hid ((Sep.nil (Fr.refl [] w)).new 24 (cfgL c))
  have HR : Hid (∀ w, Calls Try.prog 10 #[.agg (cfgL c).toArray] w fun e w' => e = .returned (.bool (right c)) ∧ Fr [] w w') := fun w => rright_any w c
  have hsz6 : (cfgL c).length = 6 := rfl
  rw [show cfgV c = .agg (cfgL c).toArray from rfl]
  go_enter Try.func7, Try.ntmps7
  go_wp2_with fail
  refine (alive_any _).mono ?_
  rintro e w1 ⟨rfl, hf⟩
  have HS := Lib.hid (HS.out.fr0 hf)
  clear hf
  go_wp2_with (first | (refine wpList_load_any 24 _ rfl rfl _ 0 rfl (cfgL c) _ (HS.out.blk 0 rfl).range Try.underlying24 rfl (by rw [hsz6]; kernel_rfl) ?_))
  generalize zeroMap = zs at *
  generalize cfgL c = cl at *
  refine (HO.out _).mono ?_
  rintro e w1 ⟨rfl, hf⟩
  have HS := Lib.hid (HS.out.fr0 hf)
  clear hf
  have HS := Lib.hid (HS.out.new 28 zs)
  go_wp2_with (first | (refine wpList_store_new 28 _ (zs).toArray rfl _ _ rfl rfl rfl (by rw [List.size_toArray, hszz]; kernel_rfl) (by simp [hszz]) (all_oneCell_toArray honez) ?_) | (refine wpList_load_any 24 _ rfl rfl _ 0 rfl cl _ (HS.out.blk 1 rfl).range Try.underlying24 rfl (by rw [hsz6]; kernel_rfl) ?_))
  refine (HR.out _).mono ?_
  rintro e w1 ⟨rfl, hf⟩
  have HS := Lib.hid (HS.out.fr0 hf)
  clear hf
  rw [hrc]
  go_wp2_with fail
  go_ret
  exact ⟨rfl, HS.out.fr⟩
set_option maxRecDepth 100000 in
set_option maxHeartbeats 4000000 in
theorem boots_good (w : World) (c : Cfg) (h : Ok c) : Calls Try.prog 7 #[cfgV c] w fun e w' => e = .returned (.bool true) ∧ Fr [] w w' := by
  have HO : Hid (∀ w, Calls Try.prog 9 #[.agg (cfgL c).toArray] w fun e w' => e = .returned (.tuple #[mapV c, .int .i64 0]) ∧ Fr [] w w') := fun w => of_good w c h
  have hrc : right c = true := by unfold right; simpa using h
  have hsz : (mapCells c).length = 24 := rfl
  have hone := oneCells c
  have HAT := Lib.hid (fun w kd i k => at_any w c h kd i k)
  have hsb := size_bd h
  have HRB : Hid (∀ w, Calls Try.prog 25 #[.agg (cfgL c).toArray] w fun e w' => ∃ g cap, e = .returned (.slice (some ⟨g, 0, none⟩) (size c).toNat cap) ∧ Sep w w' [rowT 0 52 2 (.slice (some ⟨g, 0, none⟩) (size c).toNat cap) (size c).toNat (flat enC (bootL c))]) := fun w => rboot_any w c h
  have HB := Lib.hid (fun w => boot_any w c h)
  have HLE : Hid ((bootL c).length = (size c).toNat) := bootK_len c _
  unfold mapV at *
  generalize mapCells c = cs at *
  have HS := Lib.hid ((Sep.nil (Fr.refl [] w)).new 24 (cfgL c))
  have HR : Hid (∀ w, Calls Try.prog 10 #[.agg (cfgL c).toArray] w fun e w' => e = .returned (.bool (right c)) ∧ Fr [] w w') := fun w => rright_any w c
  have hsz6 : (cfgL c).length = 6 := rfl
  rw [show cfgV c = .agg (cfgL c).toArray from rfl]
  go_enter Try.func7, Try.ntmps7
  go_wp2_with fail
  refine (alive_any _).mono ?_
  rintro e w1 ⟨rfl, hf⟩
  have HS := Lib.hid (HS.out.fr0 hf)
  clear hf
  go_wp2_with (first | (refine wpList_load_any 24 _ rfl rfl _ 0 rfl (cfgL c) _ (HS.out.blk 0 rfl).range Try.underlying24 rfl (by rw [hsz6]; kernel_rfl) ?_))
  obtain ⟨n, hn⟩ : ∃ n : Nat, n = (size c).toNat := ⟨_, rfl⟩
  rw [← hn] at HRB HB HLE
  have hn2 : n ≤ 65536 := by omega
  have dn : decide ((n : Int) > 65536) = false := by simp; omega
  generalize bootL c = bl at *
  clear hn hsb
  generalize cfgL c = cl at *
  refine (HO.out _).mono ?_
  rintro e w1 ⟨rfl, hf⟩
  have HS := Lib.hid (HS.out.fr0 hf)
  clear hf
  have HS := Lib.hid (HS.out.new 28 cs)
  go_wp2_with (first | (refine wpList_store_new 28 _ (cs).toArray rfl _ _ rfl rfl rfl (by rw [List.size_toArray, hsz]; kernel_rfl) (by simp [hsz]) (all_oneCell_toArray hone) ?_) | (refine wpList_load_any 24 _ rfl rfl _ 0 rfl cl _ (HS.out.blk 1 rfl).range Try.underlying24 rfl (by rw [hsz6]; kernel_rfl) ?_))
  refine (HR.out _).mono ?_
  rintro e w1 ⟨rfl, hf⟩
  have HS := Lib.hid (HS.out.fr0 hf)
  clear hf
  rw [hrc]
  go_wp2_with (first | (refine wpList_load_any 28 _ rfl rfl _ 0 rfl cs _ (HS.out.blk 0 rfl).range Try.underlying28 rfl (by rw [hsz]; kernel_rfl) ?_))
  refine (HB.out _).mono ?_
  rintro e w2 ⟨b, g, cap, rfl, hN⟩
  have HS := Lib.hid (HS.out.append hN); clear hN
  simp only [List.cons_append, List.nil_append] at HS
  go_wp2_with (first | (refine wpList_load_any 24 _ rfl rfl _ 0 rfl cl _ (HS.out.blk 3 rfl).range Try.underlying24 rfl (by rw [hsz6]; kernel_rfl) ?_))
  refine (HRB.out _).mono ?_
  rintro e w3 ⟨g', cap', rfl, hN⟩
  have HS := Lib.hid (HS.out.append hN); clear hN
  simp only [List.cons_append, List.nil_append] at HS
  go_wp2_with fail
  refine (mm_size _ b g n cap (HS.out.blk 1 rfl)).mono ?_
  rintro e _ ⟨rfl, rfl⟩
  go_wp2_with fail
  refine (mm_total _ b g n cap (HS.out.blk 1 rfl)).mono ?_
  rintro e _ ⟨rfl, rfl⟩
  go_wp2_with fail
  refine (mm_size _ b g n cap (HS.out.blk 1 rfl)).mono ?_
  rintro e _ ⟨rfl, rfl⟩
  go_wp2_with fail
  go_loopg [48] n (fun gk vi wr => ∃ k, gk + k = n ∧ vi = .int .i64 (k : Int) ∧ Sep w wr [rowT 0 52 2 (.slice (some ⟨g', 0, none⟩) n cap') n (flat enC bl), blkT b 68 (memL g n cap), rowT 0 52 2 (.slice (some ⟨g, 0, none⟩) n cap) n (flat enC bl)])
  case atStart => exact ⟨0, by omega, rfl, HS.out.sub [0, 1, 2] rfl (by decide)⟩
  case round =>
    clear HS
    obtain ⟨k, hgk, rfl, hS⟩ := hrel
    by_cases hk : k < n
    · have hki : (k : Int) < (n : Int) := by omega
      have hkl : k < bl.length := by rw [HLE.out]; exact hk
      have hr := hS.row 0 rfl
      have hg := (World.ownsRow.lt hr g' rfl).2
      obtain ⟨x0, x1⟩ := cells_of hr hkl
      have HS := Lib.hid (hS.new 52 [.int .u64 bl[k].1, .int .u64 bl[k].2])
      have HPK := Lib.hid (mm_peek _ b g n cap bl HLE.out (HS.out.blk 2 rfl) (HS.out.row 3 rfl) k hkl hn2)
      clear hS hr
      generalize bl[k] = cc at *
      go_wp2_with fail
      refine (HPK.out).mono ?_
      rintro e w1 ⟨rfl, hf⟩
      have HS := Lib.hid (HS.out.fr0 hf)
      clear hf
      have k0 := (HS.out.blk 0 rfl).cell 0
      have k1 := (HS.out.blk 0 rfl).cell 1
      have kl := (HS.out.blk 0 rfl).lt
      simp only [List.getElem?_cons_zero, List.getElem?_cons_succ] at k0 k1
      go_wp2_with fail
      go_roundg (n - (k + 1))
      case measure => omega
      case rel => exact ⟨k + 1, by omega, by go_num, (HS.out.alloc _).sub [1, 2, 3] rfl (by decide)⟩
    · obtain rfl : k = n := by omega
      go_wp2_with fail
      go_ret
      exact ⟨rfl, hS.fr⟩
theorem boots_row (a b d f g l : Int) (w : World) : Calls Try.prog 7 #[.agg #[.int .i64 a, .int .i64 b, .int .i64 d, .int .i64 f, .int .u64 g, .int .u64 l]] w fun e w' => e = .returned (.bool true) ∧ Fr [] w w' := by
  by_cases h : Ok ⟨a, b, d, f, g, l⟩
  · exact boots_good w ⟨a, b, d, f, g, l⟩ h
  · exact boots_bad w ⟨a, b, d, f, g, l⟩ h
end Go.Proofs.Ytjblonbfmdjpcaa
