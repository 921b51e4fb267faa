/- The law ViewSteps, walked. -/
import Derived.Test.YtndanamaadhdaaaVrq
set_option linter.unusedSimpArgs false
set_option linter.unusedVariables false
namespace Go.Proofs.Ytndanamaadhdaaa
open Go.RowKit Go.Tum Go.Tum.Y Go.Tum.Vw
set_option maxRecDepth 100000 in
set_option maxHeartbeats 4000000 in
theorem steps_s0 (w : World) (c : Cfg) (who seq : Int) (a : Option Addr) (m lc : Nat) (hrc : right c = false) : Calls Try.prog 5 #[cfgV c, .int .i64 who, .int .u64 seq, .slice a m lc] w fun e w' => e = .returned (.bool true) ∧ Fr [] w w' := by
  have HS := Lib.hid ((Sep.nil (Fr.refl [] w)).new 24 (cfgL c))
  have HR := Lib.hid (fun w => rright09_any w c)
  have hsz6 : (cfgL c).length = 6 := rfl
  have g0 : (cfgL c)[0]? = some (.int .i64 c.t) := rfl
  have g1 : (cfgL c)[1]? = some (.int .i64 c.b) := rfl
  rw [show cfgV c = .agg (cfgL c).toArray from rfl]
  generalize cfgL c = cl at *
  go_enter Try.func5, Try.ntmps5
  go_wp2_with fail
  refine (alive09_any _).mono ?_
  rintro e w1 ⟨rfl, hf⟩
  have HS := Lib.hid (HS.out.fr0 hf)
  clear hf
  go_wp2_with (first | (refine wpList_load_any 24 _ rfl rfl _ 0 rfl cl _ (HS.out.blk 0 rfl).range Try.underlying24 rfl (by rw [hsz6]; kernel_rfl) ?_))
  refine (HR.out _).mono ?_
  rintro e w1 ⟨rfl, hf⟩
  have HS := Lib.hid (HS.out.fr0 hf)
  clear hf
  rw [hrc]
  go_wp2_with fail
  go_ret
  exact ⟨rfl, HS.out.fr⟩
set_option maxRecDepth 100000 in
set_option maxHeartbeats 4000000 in
theorem steps_s1 (w : World) (c : Cfg) (who seq : Int) (a : Option Addr) (m lc : Nat) (hrc : right c = true) (d1 : decide ((m : Int) > 20) = true) : Calls Try.prog 5 #[cfgV c, .int .i64 who, .int .u64 seq, .slice a m lc] w fun e w' => e = .returned (.bool true) ∧ Fr [] w w' := by
  have HS := Lib.hid ((Sep.nil (Fr.refl [] w)).new 24 (cfgL c))
  have HR := Lib.hid (fun w => rright09_any w c)
  have hsz6 : (cfgL c).length = 6 := rfl
  have g0 : (cfgL c)[0]? = some (.int .i64 c.t) := rfl
  have g1 : (cfgL c)[1]? = some (.int .i64 c.b) := rfl
  rw [show cfgV c = .agg (cfgL c).toArray from rfl]
  generalize cfgL c = cl at *
  go_enter Try.func5, Try.ntmps5
  go_wp2_with fail
  refine (alive09_any _).mono ?_
  rintro e w1 ⟨rfl, hf⟩
  have HS := Lib.hid (HS.out.fr0 hf)
  clear hf
  go_wp2_with (first | (refine wpList_load_any 24 _ rfl rfl _ 0 rfl cl _ (HS.out.blk 0 rfl).range Try.underlying24 rfl (by rw [hsz6]; kernel_rfl) ?_))
  refine (HR.out _).mono ?_
  rintro e w1 ⟨rfl, hf⟩
  have HS := Lib.hid (HS.out.fr0 hf)
  clear hf
  rw [hrc]
  go_wp2_with fail
  go_ret
  exact ⟨rfl, HS.out.fr⟩
set_option maxRecDepth 100000 in
set_option maxHeartbeats 40000000 in
theorem steps_good (w : World) (c : Cfg) (h : Ok c) (who seq : Int) (a : Option Addr) (m lc : Nat) (L : List Rq) (hLm : L.length = m) (hL : ArgE enR 3 w (.slice a m lc) L) (hm : m ≤ 20) (hrc : right c = true) :
    Calls Try.prog 5 #[cfgV c, .int .i64 who, .int .u64 seq, .slice a m lc] w fun e w' => e = .returned (.bool true) ∧ Fr [] w w' := by
  subst hLm
  have d1 : decide ((L.length : Int) > 20) = false := by simp; omega
  have ht1 := h.t1
  have ht8 := h.t8
  have hb1 := h.b1
  have hb64 := h.b64
  obtain ⟨b8, hb8, hbe⟩ := and_i64_low who 8 (by decide)
  obtain ⟨q, hq⟩ : ∃ q : Int, q = (b8 : Int) := ⟨_, rfl⟩
  have hbe2 : bits .and .i64 who 255 = q := by rw [hq]; exact hbe
  have hq0 : 0 ≤ q ∧ q ≤ 255 := by rw [hq]; omega
  obtain ⟨r, hr⟩ : ∃ r, Int.tmod q c.t = r := ⟨_, rfl⟩
  have HRT : Hid (∀ w, Calls Try.prog 8 #[.agg (cfgL c).toArray, .int .i64 who, .int .u64 seq] w fun e w' => ∃ b, e = .returned (.tuple #[mapV c, .pointer (some ⟨b, 0, none⟩), .agg (xL c r seq (-1) false).toArray]) ∧ Sep w w' [blkT b 72 (vwL (mapCells c) r seq vNew)]) := fun w => right_law w c h who seq q r hbe2 hr ⟨ht1, ht8⟩ hq0
  clear hbe hb8 hbe2 hr hq
  have hsz : (mapCells c).length = 24 := rfl
  have hone := oneMapV c
  have hoX := xL_one c r seq (-1) false
  have hlX : (xL c r seq (-1) false).length = 10 := rfl
  have HRA : Hid (∀ w i, Calls Try.prog 15 #[.agg (cfgL c).toArray, .int .i64 11, .int .i64 i, .int .i64 0] w fun e w' => e = .returned (.int .i64 (Y.at_ c 11 i 0)) ∧ Fr [] w w') := fun w i => rat_any w c h 11 i 0
  have HBG : Hid (∀ (w0 w : World) (R : List Thing) (b : Nat) (v : V) (kind a block : Int), Sep w0 w (blkT b 72 (vwL (mapCells c) r seq v) :: R) → Calls Try.prog 9 #[.pointer (some ⟨b, 0, none⟩), .agg (cfgL c).toArray, .agg #[.int .i64 kind, .int .i64 a, .int .i64 block]] w fun e w' => e = .returned (.tuple #[]) ∧ Sep w0 w' (blkT b 72 (vwL (mapCells c) r seq (beg c kind a block v)) :: R)) := fun w0 w R b v kind a block hS => begin_law b c h r seq v kind a block hS
  have HAK := Lib.hid (fun w b v hB => vask_any w c h b r seq v hB)
  have HRD := Lib.hid (fun K B A v hs hK hB hA => reads_req h seq K B A v hs hK hB hA)
  unfold mapV at *
  generalize mapCells c = cs at *
  generalize xL c r seq (-1) false = xl at *
  have HS := Lib.hid ((Sep.nil (Fr.refl [] w)).new 24 (cfgL c))
  have HR := Lib.hid (fun w => rright09_any w c)
  have hsz6 : (cfgL c).length = 6 := rfl
  have g0 : (cfgL c)[0]? = some (.int .i64 c.t) := rfl
  have g1 : (cfgL c)[1]? = some (.int .i64 c.b) := rfl
  rw [show cfgV c = .agg (cfgL c).toArray from rfl]
  generalize cfgL c = cl at *
  go_enter Try.func5, Try.ntmps5
  go_wp2_with fail
  refine (alive09_any _).mono ?_
  rintro e w1 ⟨rfl, hf⟩
  have HS := Lib.hid (HS.out.fr0 hf)
  clear hf
  go_wp2_with (first | (refine wpList_load_any 24 _ rfl rfl _ 0 rfl cl _ (HS.out.blk 0 rfl).range Try.underlying24 rfl (by rw [hsz6]; kernel_rfl) ?_))
  refine (HR.out _).mono ?_
  rintro e w1 ⟨rfl, hf⟩
  have HS := Lib.hid (HS.out.fr0 hf)
  clear hf
  rw [hrc]
  go_wp2_with (first | (refine wpList_load_any 24 _ rfl rfl _ 0 rfl cl _ (HS.out.blk 0 rfl).range Try.underlying24 rfl (by rw [hsz6]; kernel_rfl) ?_))
  refine (HRT.out _).mono ?_
  rintro e w2 ⟨b, rfl, hN⟩
  have hS := HS.out.append hN
  simp only [List.cons_append, List.nil_append] at hS
  have hS := (hS.new 31 zeroMap).new 34 [Value.int .i64 0, Value.int .i64 0, Value.int .i64 0, Value.int .i64 0, Value.int .u64 0, Value.int .u64 0, Value.int .i64 0, Value.int .u64 0, Value.int .i64 0, Value.bool false]
  simp only [World.size_alloc] at hS
  have HS := Lib.hid hS; clear hS hN HRT HR
  have hlz : cs.length = zeroMap.length := hsz
  go_wp2_with (first | (refine wpList_store_sep HS.out 1 rfl cs 31 _ _ rfl rfl rfl rfl hlz (by rw [hsz]; kernel_rfl) hone (fun wA hA _ => ?_); have HA := Lib.hid hA; clear hA) | (refine wpList_store_sep HA.out 0 rfl xl 34 _ _ rfl rfl rfl rfl (by rw [hlX]; rfl) (by rw [hlX]; kernel_rfl) hoX (fun wB hB _ => ?_); have HB := Lib.hid hB; clear hB))
  have hS := HB.out
  simp only [List.set_cons_zero, List.set_cons_succ] at hS
  have hS : Sep w wB [blkT b 72 (vwL cs r seq vNew), blkT w.heap.size 24 cl] := hS.tail.tail
  have HS := Lib.hid hS; clear hS HA HB hlz
  have hni : (L.length : Int) ≤ 20 := by omega
  go_loopg [12, 41] L.length (fun gk vh vi wr => ∃ k v, gk + k = L.length ∧ vh = .int .i64 v.held ∧ vi = .int .i64 (k : Int) ∧ v.s = 1 ∧ Sep w wr [blkT b 72 (vwL cs r seq v), blkT w.heap.size 24 cl])
  case atStart => exact ⟨0, vNew, by omega, rfl, rfl, rfl, HS.out⟩
  case round =>
    clear HS
    obtain ⟨k, v, hg, rfl, rfl, hvs, hS⟩ := hrel
    by_cases hk : k < L.length
    · have hki : (k : Int) < (L.length : Int) := by omega
      obtain ⟨x, rfl, hx, e0, e1⟩ := (hL.fr hS.fr).at hk
      generalize L[k] = Q at *
      obtain ⟨k0, a0, b0⟩ := Q
      have y0 := e0 _ rfl
      have y1 := e1 0 _ rfl
      have y2 := e1 1 _ rfl
      clear e0 e1
      obtain ⟨Kn, hKn, hKe⟩ := and_i64_low k0 2 (by decide)
      obtain ⟨Bn, hBn, hBe⟩ := and_i64_low b0 8 (by decide)
      obtain ⟨An, hAn, hAe⟩ := and_i64_low a0 3 (by decide)
      obtain ⟨qb, hqb⟩ : ∃ q : Int, q = (Bn : Int) := ⟨_, rfl⟩
      have hBe2 : bits .and .i64 b0 255 = qb := by rw [hqb]; exact hBe
      have hqb0 : 0 ≤ qb ∧ qb ≤ 255 := by omega
      obtain ⟨B, hB⟩ : ∃ B, Int.tmod qb c.b = B := ⟨_, rfl⟩
      have hB0 : 0 ≤ B ∧ B < c.b := by
        rw [← hB, Int.tmod_eq_emod_of_nonneg (by omega)]
        have := Int.emod_nonneg qb (show c.b ≠ 0 by omega)
        have := Int.emod_lt_of_pos qb (show 0 < c.b by omega)
        omega
      obtain ⟨A, hA⟩ : ∃ A : Int, A = (An : Int) := ⟨_, rfl⟩
      have hAe2 : bits .and .i64 a0 7 = A := by rw [hA]; exact hAe
      have hA0 : 0 ≤ A ∧ A < 8 := by omega
      clear hBe hAe hqb hA hBn hAn
      have HS := Lib.hid hS; clear hS
      have c1 := ((HS.out.blk 1 rfl).cell 1).trans g1
      have cl0 := (HS.out.blk 1 rfl).lt
      have hnr : ¬ w.heap.size = wr.heap.size := by omega
      rcases (show Kn = 0 ∨ Kn = 1 ∨ Kn = 2 ∨ Kn = 3 by omega) with rfl | rfl | rfl | rfl
      · have hKe2 : bits .and .i64 k0 3 = 0 := hKe
        clear hKe hKn
        have HSB := Lib.hid (HS.out.new 38 [.int .i64 0, .int .i64 A, .int .i64 B])
        have HCL := Lib.hid (HSB.out.blk 2 rfl).range
        go_wp2_with (refine wpList_load_any 24 _ rfl rfl _ 0 rfl cl _ HCL.out Try.underlying24 rfl (by rw [hsz6]; kernel_rfl) ?_)
        refine (HRA.out _ _).mono ?_
        rintro e w3 ⟨rfl, hf⟩
        have hR0 := HRD.out 0 B A v hvs (by omega) hB0 hA0
        simp at hR0
        generalize Y.at_ c 11 B 0 = p at hR0 ⊢
        have hS := HSB.out.fr0 hf; clear hf HSB HCL
        have q0 := (hS.blk 0 rfl).cell 0
        have q1 := (hS.blk 0 rfl).cell 1
        have q2 := (hS.blk 0 rfl).cell 2
        have f1 := (hS.blk 0 rfl).froz 1
        have ql := (hS.blk 0 rfl).lt
        simp only [List.getElem?_cons_zero, List.getElem?_cons_succ] at q0 q1 q2
        have hS2 := hS.set 0 rfl 1 (.int .i64 p)
        simp only [List.set_cons_zero, List.set_cons_succ] at hS2
        have HS := Lib.hid hS2
        have HCL := Lib.hid (hS2.blk 2 rfl).range
        clear hS hS2
        go_wp2_with (refine wpList_load_any 24 _ rfl rfl _ 0 rfl cl _ HCL.out Try.underlying24 rfl (by rw [hsz6]; kernel_rfl) ?_)
        clear q0 q1 q2 f1 ql HCL
        refine (HS.out.call 1 rfl (fun R hR => HBG.out _ _ R b v 0 p B hR)).mono ?_
        rintro e w4 ⟨rfl, hS⟩
        simp only [List.set_cons_zero, List.set_cons_succ] at hS
        have hRd : Reads seq (beg c 0 p B v) 1 v.held := hR0
        generalize beg c 0 p B v = u at hS hRd
        have HS := Lib.hid hS; clear hS
        have HAS : Hid (∀ j, j ≤ 1 → (Vw.ask c r (runV seq j u)).2 = decide (j < 1)) := fun j hj => by
          by_cases h : j < 1
          · rw [ask_on c r _ (hRd.on j h), decide_eq_true h]
          · obtain rfl : j = 1 := by omega
            rw [ask_off c r _ hRd.off, decide_eq_false h]
        have HRD2 := Lib.hid hRd; clear hRd
        clear y0 y1 y2 c1 cl0
        go_wp2_with fail
        refine (HAK.out _ b u (HS.out.blk 1 rfl)).mono ?_
        rintro e w5 ⟨rfl, hf⟩
        rw [show (Vw.ask c r u).2 = decide (0 < 1) from HAS.out 0 (by omega)]
        generalize (Vw.ask c r u).1 = o
        have hS := (HS.out.fr0 hf).new 43 (enP o)
        have HS := Lib.hid hS; clear hS hf
        have honeO := enP_one o
        go_wp2_with (refine wpList_store_new 43 _ (enP o).toArray rfl _ _ rfl rfl rfl (by kernel_rfl) (by simp [enP]) (all_oneCell_toArray honeO) ?_)
        go_loopg [15, 16, 17] 1 (fun g2 v15 v16 v17 wr2 => ∃ j X o2, g2 + j = 1 ∧ v15 = .int .i64 (j : Int) ∧ v16 = .pointer (some ⟨X, 0, none⟩) ∧ v17 = .bool (decide (j < 1)) ∧ Sep w wr2 [blkT X 43 (enP o2), blkT wr.heap.size 38 [.int .i64 0, .int .i64 p, .int .i64 B], blkT b 72 (vwL cs r seq (runV seq j u)), blkT w.heap.size 24 cl])
        case atStart => exact ⟨0, _, o, by omega, rfl, rfl, by first | rfl | simp, HS.out⟩
        case round =>
          clear HS honeO
          obtain ⟨j, X, o2, hg2, rfl, rfl, rfl, hS⟩ := hrel
          have HS := Lib.hid hS; clear hS
          by_cases hj : j < 1
          · rw [decide_eq_true hj]
            have hj9 : (j : Int) < 9 := by omega
            go_wp2_with fail
            refine (HS.out.call 2 rfl (fun R hR => vtell_any b cs hsz r seq (runV seq j u) 1 seq true hR)).mono ?_
            rintro e w6 ⟨rfl, hS⟩
            simp only [List.set_cons_zero, List.set_cons_succ] at hS
            rw [← runV_succ] at hS
            have HS := Lib.hid hS
            have HS2 := Lib.hid (hS.new 43 (enP o2)); clear hS
            have honeO := enP_one o2
            go_wp2_with (first | (refine wpList_load_any 43 _ rfl rfl _ 0 rfl (enP o2) _ (HS.out.blk 0 rfl).range Try.underlying43 rfl (by kernel_rfl) ?_) | (refine wpList_store_new 43 _ (enP o2).toArray rfl _ _ rfl rfl rfl (by kernel_rfl) (by simp [enP]) (all_oneCell_toArray honeO) ?_))
            refine (HAK.out _ b (runV seq (j + 1) u) (HS2.out.blk 3 rfl)).mono ?_
            rintro e w7 ⟨rfl, hf⟩
            rw [show (Vw.ask c r (runV seq (j + 1) u)).2 = decide (j + 1 < 1) from HAS.out (j + 1) (by omega)]
            have HS := Lib.hid (HS2.out.fr0 hf); clear hf HS2
            go_wp2_with fail
            go_roundg (1 - (j + 1))
            case measure => omega
            case rel => exact ⟨j + 1, _, o2, by omega, by go_num, rfl, by first | rfl | simp, HS.out.snd⟩
          · obtain rfl : j = 1 := by omega
            rw [decide_eq_false hj]
            have q0 := (HS.out.blk 1 rfl).cell 0
            have q2 := (HS.out.blk 1 rfl).cell 2
            have ql := (HS.out.blk 1 rfl).lt
            simp only [List.getElem?_cons_zero, List.getElem?_cons_succ] at q0 q2
            have hb11 : bits .and .i64 1 1 = 1 := by decide
            have hb21 : bits .and .i64 2 1 = 0 := by decide
            go_wp2_with fail
            refine (vend_any _ b cs hsz r seq _ (HS.out.blk 2 rfl)).mono ?_
            rintro e w8 ⟨rfl, hf⟩
            rw [HRD2.out.good]
            have HS := Lib.hid (HS.out.fr0 hf); clear hf
            go_wp2_with fail
            refine (held_any _ b cs hsz r seq _ (HS.out.blk 2 rfl)).mono ?_
            rintro e w9 ⟨rfl, hf⟩
            rw [HRD2.out.held]
            have HS := Lib.hid (HS.out.fr0 hf); clear hf
            go_wp2_with fail
            go_roundg (L.length - (k + 1))
            case measure => omega
            case rel => exact ⟨k + 1, runV seq 1 u, by omega, by rw [HRD2.out.held], by go_num, HRD2.out.good, HS.out.tail.tail⟩
      · by_cases hv : v.held = B
        · have hvh : (v.held == B) = true := by simpa using hv
          have hR0 := HRD.out 1 B A v hvs (by omega) hB0 hA0
          simp [hv] at hR0
          clear hv
          have hKe2 : bits .and .i64 k0 3 = 1 := hKe
          clear hKe hKn
          have HSB := Lib.hid (HS.out.new 38 [.int .i64 1, .int .i64 A, .int .i64 B])
          have HCL := Lib.hid (HSB.out.blk 2 rfl).range
          go_wp2_with (refine wpList_load_any 24 _ rfl rfl _ 0 rfl cl _ HCL.out Try.underlying24 rfl (by rw [hsz6]; kernel_rfl) ?_)
          have HS := HSB; clear HSB HCL
          refine (HS.out.call 1 rfl (fun R hR => HBG.out _ _ R b v 1 A B hR)).mono ?_
          rintro e w4 ⟨rfl, hS⟩
          simp only [List.set_cons_zero, List.set_cons_succ] at hS
          have hRd : Reads seq (beg c 1 A B v) 1 B := hR0
          generalize beg c 1 A B v = u at hS hRd
          have HS := Lib.hid hS; clear hS
          have HAS : Hid (∀ j, j ≤ 1 → (Vw.ask c r (runV seq j u)).2 = decide (j < 1)) := fun j hj => by
            by_cases h : j < 1
            · rw [ask_on c r _ (hRd.on j h), decide_eq_true h]
            · obtain rfl : j = 1 := by omega
              rw [ask_off c r _ hRd.off, decide_eq_false h]
          have HRD2 := Lib.hid hRd; clear hRd
          clear y0 y1 y2 c1 cl0
          go_wp2_with fail
          refine (HAK.out _ b u (HS.out.blk 1 rfl)).mono ?_
          rintro e w5 ⟨rfl, hf⟩
          rw [show (Vw.ask c r u).2 = decide (0 < 1) from HAS.out 0 (by omega)]
          generalize (Vw.ask c r u).1 = o
          have hS := (HS.out.fr0 hf).new 43 (enP o)
          have HS := Lib.hid hS; clear hS hf
          have honeO := enP_one o
          go_wp2_with (refine wpList_store_new 43 _ (enP o).toArray rfl _ _ rfl rfl rfl (by kernel_rfl) (by simp [enP]) (all_oneCell_toArray honeO) ?_)
          go_loopg [15, 16, 17] 1 (fun g2 v15 v16 v17 wr2 => ∃ j X o2, g2 + j = 1 ∧ v15 = .int .i64 (j : Int) ∧ v16 = .pointer (some ⟨X, 0, none⟩) ∧ v17 = .bool (decide (j < 1)) ∧ Sep w wr2 [blkT X 43 (enP o2), blkT wr.heap.size 38 [.int .i64 1, .int .i64 A, .int .i64 B], blkT b 72 (vwL cs r seq (runV seq j u)), blkT w.heap.size 24 cl])
          case atStart => exact ⟨0, _, o, by omega, rfl, rfl, by first | rfl | simp, HS.out⟩
          case round =>
            clear HS honeO
            obtain ⟨j, X, o2, hg2, rfl, rfl, rfl, hS⟩ := hrel
            have HS := Lib.hid hS; clear hS
            by_cases hj : j < 1
            · rw [decide_eq_true hj]
              have hj9 : (j : Int) < 9 := by omega
              go_wp2_with fail
              refine (HS.out.call 2 rfl (fun R hR => vtell_any b cs hsz r seq (runV seq j u) 1 seq true hR)).mono ?_
              rintro e w6 ⟨rfl, hS⟩
              simp only [List.set_cons_zero, List.set_cons_succ] at hS
              rw [← runV_succ] at hS
              have HS := Lib.hid hS
              have HS2 := Lib.hid (hS.new 43 (enP o2)); clear hS
              have honeO := enP_one o2
              go_wp2_with (first | (refine wpList_load_any 43 _ rfl rfl _ 0 rfl (enP o2) _ (HS.out.blk 0 rfl).range Try.underlying43 rfl (by kernel_rfl) ?_) | (refine wpList_store_new 43 _ (enP o2).toArray rfl _ _ rfl rfl rfl (by kernel_rfl) (by simp [enP]) (all_oneCell_toArray honeO) ?_))
              refine (HAK.out _ b (runV seq (j + 1) u) (HS2.out.blk 3 rfl)).mono ?_
              rintro e w7 ⟨rfl, hf⟩
              rw [show (Vw.ask c r (runV seq (j + 1) u)).2 = decide (j + 1 < 1) from HAS.out (j + 1) (by omega)]
              have HS := Lib.hid (HS2.out.fr0 hf); clear hf HS2
              go_wp2_with fail
              go_roundg (1 - (j + 1))
              case measure => omega
              case rel => exact ⟨j + 1, _, o2, by omega, by go_num, rfl, by first | rfl | simp, HS.out.snd⟩
            · obtain rfl : j = 1 := by omega
              rw [decide_eq_false hj]
              have q0 := (HS.out.blk 1 rfl).cell 0
              have q2 := (HS.out.blk 1 rfl).cell 2
              have ql := (HS.out.blk 1 rfl).lt
              simp only [List.getElem?_cons_zero, List.getElem?_cons_succ] at q0 q2
              have hb11 : bits .and .i64 1 1 = 1 := by decide
              have hb21 : bits .and .i64 2 1 = 0 := by decide
              go_wp2_with fail
              refine (vend_any _ b cs hsz r seq _ (HS.out.blk 2 rfl)).mono ?_
              rintro e w8 ⟨rfl, hf⟩
              rw [HRD2.out.good]
              have HS := Lib.hid (HS.out.fr0 hf); clear hf
              go_wp2_with fail
              refine (held_any _ b cs hsz r seq _ (HS.out.blk 2 rfl)).mono ?_
              rintro e w9 ⟨rfl, hf⟩
              rw [HRD2.out.held]
              have HS := Lib.hid (HS.out.fr0 hf); clear hf
              go_wp2_with fail
              go_roundg (L.length - (k + 1))
              case measure => omega
              case rel => exact ⟨k + 1, runV seq 1 u, by omega, by rw [HRD2.out.held], by go_num, HRD2.out.good, HS.out.tail.tail⟩
        · have hvh : (v.held == B) = false := by simpa using hv
          have hR0 := HRD.out 1 B A v hvs (by omega) hB0 hA0
          simp [hv] at hR0
          clear hv
          have hKe2 : bits .and .i64 k0 3 = 1 := hKe
          clear hKe hKn
          have HSB := Lib.hid (HS.out.new 38 [.int .i64 1, .int .i64 A, .int .i64 B])
          have HCL := Lib.hid (HSB.out.blk 2 rfl).range
          go_wp2_with (refine wpList_load_any 24 _ rfl rfl _ 0 rfl cl _ HCL.out Try.underlying24 rfl (by rw [hsz6]; kernel_rfl) ?_)
          have HS := HSB; clear HSB HCL
          refine (HS.out.call 1 rfl (fun R hR => HBG.out _ _ R b v 1 A B hR)).mono ?_
          rintro e w4 ⟨rfl, hS⟩
          simp only [List.set_cons_zero, List.set_cons_succ] at hS
          have hRd : Reads seq (beg c 1 A B v) 3 B := hR0
          generalize beg c 1 A B v = u at hS hRd
          have HS := Lib.hid hS; clear hS
          have HAS : Hid (∀ j, j ≤ 3 → (Vw.ask c r (runV seq j u)).2 = decide (j < 3)) := fun j hj => by
            by_cases h : j < 3
            · rw [ask_on c r _ (hRd.on j h), decide_eq_true h]
            · obtain rfl : j = 3 := by omega
              rw [ask_off c r _ hRd.off, decide_eq_false h]
          have HRD2 := Lib.hid hRd; clear hRd
          clear y0 y1 y2 c1 cl0
          go_wp2_with fail
          refine (HAK.out _ b u (HS.out.blk 1 rfl)).mono ?_
          rintro e w5 ⟨rfl, hf⟩
          rw [show (Vw.ask c r u).2 = decide (0 < 3) from HAS.out 0 (by omega)]
          generalize (Vw.ask c r u).1 = o
          have hS := (HS.out.fr0 hf).new 43 (enP o)
          have HS := Lib.hid hS; clear hS hf
          have honeO := enP_one o
          go_wp2_with (refine wpList_store_new 43 _ (enP o).toArray rfl _ _ rfl rfl rfl (by kernel_rfl) (by simp [enP]) (all_oneCell_toArray honeO) ?_)
          go_loopg [15, 16, 17] 3 (fun g2 v15 v16 v17 wr2 => ∃ j X o2, g2 + j = 3 ∧ v15 = .int .i64 (j : Int) ∧ v16 = .pointer (some ⟨X, 0, none⟩) ∧ v17 = .bool (decide (j < 3)) ∧ Sep w wr2 [blkT X 43 (enP o2), blkT wr.heap.size 38 [.int .i64 1, .int .i64 A, .int .i64 B], blkT b 72 (vwL cs r seq (runV seq j u)), blkT w.heap.size 24 cl])
          case atStart => exact ⟨0, _, o, by omega, rfl, rfl, by first | rfl | simp, HS.out⟩
          case round =>
            clear HS honeO
            obtain ⟨j, X, o2, hg2, rfl, rfl, rfl, hS⟩ := hrel
            have HS := Lib.hid hS; clear hS
            by_cases hj : j < 3
            · rw [decide_eq_true hj]
              have hj9 : (j : Int) < 9 := by omega
              go_wp2_with fail
              refine (HS.out.call 2 rfl (fun R hR => vtell_any b cs hsz r seq (runV seq j u) 1 seq true hR)).mono ?_
              rintro e w6 ⟨rfl, hS⟩
              simp only [List.set_cons_zero, List.set_cons_succ] at hS
              rw [← runV_succ] at hS
              have HS := Lib.hid hS
              have HS2 := Lib.hid (hS.new 43 (enP o2)); clear hS
              have honeO := enP_one o2
              go_wp2_with (first | (refine wpList_load_any 43 _ rfl rfl _ 0 rfl (enP o2) _ (HS.out.blk 0 rfl).range Try.underlying43 rfl (by kernel_rfl) ?_) | (refine wpList_store_new 43 _ (enP o2).toArray rfl _ _ rfl rfl rfl (by kernel_rfl) (by simp [enP]) (all_oneCell_toArray honeO) ?_))
              refine (HAK.out _ b (runV seq (j + 1) u) (HS2.out.blk 3 rfl)).mono ?_
              rintro e w7 ⟨rfl, hf⟩
              rw [show (Vw.ask c r (runV seq (j + 1) u)).2 = decide (j + 1 < 3) from HAS.out (j + 1) (by omega)]
              have HS := Lib.hid (HS2.out.fr0 hf); clear hf HS2
              go_wp2_with fail
              go_roundg (3 - (j + 1))
              case measure => omega
              case rel => exact ⟨j + 1, _, o2, by omega, by go_num, rfl, by first | rfl | simp, HS.out.snd⟩
            · obtain rfl : j = 3 := by omega
              rw [decide_eq_false hj]
              have q0 := (HS.out.blk 1 rfl).cell 0
              have q2 := (HS.out.blk 1 rfl).cell 2
              have ql := (HS.out.blk 1 rfl).lt
              simp only [List.getElem?_cons_zero, List.getElem?_cons_succ] at q0 q2
              have hb11 : bits .and .i64 1 1 = 1 := by decide
              have hb21 : bits .and .i64 2 1 = 0 := by decide
              go_wp2_with fail
              refine (vend_any _ b cs hsz r seq _ (HS.out.blk 2 rfl)).mono ?_
              rintro e w8 ⟨rfl, hf⟩
              rw [HRD2.out.good]
              have HS := Lib.hid (HS.out.fr0 hf); clear hf
              go_wp2_with fail
              refine (held_any _ b cs hsz r seq _ (HS.out.blk 2 rfl)).mono ?_
              rintro e w9 ⟨rfl, hf⟩
              rw [HRD2.out.held]
              have HS := Lib.hid (HS.out.fr0 hf); clear hf
              go_wp2_with fail
              go_roundg (L.length - (k + 1))
              case measure => omega
              case rel => exact ⟨k + 1, runV seq 3 u, by omega, by rw [HRD2.out.held], by go_num, HRD2.out.good, HS.out.tail.tail⟩
      · by_cases hv : v.held = B
        · have hvh : (v.held == B) = true := by simpa using hv
          have hR0 := HRD.out 2 B A v hvs (by omega) hB0 hA0
          simp [hv] at hR0
          clear hv
          have hKe2 : bits .and .i64 k0 3 = 2 := hKe
          clear hKe hKn
          have HSB := Lib.hid (HS.out.new 38 [.int .i64 2, .int .i64 A, .int .i64 B])
          have HCL := Lib.hid (HSB.out.blk 2 rfl).range
          go_wp2_with (refine wpList_load_any 24 _ rfl rfl _ 0 rfl cl _ HCL.out Try.underlying24 rfl (by rw [hsz6]; kernel_rfl) ?_)
          have HS := HSB; clear HSB HCL
          refine (HS.out.call 1 rfl (fun R hR => HBG.out _ _ R b v 2 A B hR)).mono ?_
          rintro e w4 ⟨rfl, hS⟩
          simp only [List.set_cons_zero, List.set_cons_succ] at hS
          have hRd : Reads seq (beg c 2 A B v) 0 B := hR0
          generalize beg c 2 A B v = u at hS hRd
          have HS := Lib.hid hS; clear hS
          have HAS : Hid (∀ j, j ≤ 0 → (Vw.ask c r (runV seq j u)).2 = decide (j < 0)) := fun j hj => by
            by_cases h : j < 0
            · rw [ask_on c r _ (hRd.on j h), decide_eq_true h]
            · obtain rfl : j = 0 := by omega
              rw [ask_off c r _ hRd.off, decide_eq_false h]
          have HRD2 := Lib.hid hRd; clear hRd
          clear y0 y1 y2 c1 cl0
          go_wp2_with fail
          refine (HAK.out _ b u (HS.out.blk 1 rfl)).mono ?_
          rintro e w5 ⟨rfl, hf⟩
          rw [show (Vw.ask c r u).2 = decide (0 < 0) from HAS.out 0 (by omega)]
          generalize (Vw.ask c r u).1 = o
          have hS := (HS.out.fr0 hf).new 43 (enP o)
          have HS := Lib.hid hS; clear hS hf
          have honeO := enP_one o
          go_wp2_with (refine wpList_store_new 43 _ (enP o).toArray rfl _ _ rfl rfl rfl (by kernel_rfl) (by simp [enP]) (all_oneCell_toArray honeO) ?_)
          go_loopg [15, 16, 17] 0 (fun g2 v15 v16 v17 wr2 => ∃ j X o2, g2 + j = 0 ∧ v15 = .int .i64 (j : Int) ∧ v16 = .pointer (some ⟨X, 0, none⟩) ∧ v17 = .bool (decide (j < 0)) ∧ Sep w wr2 [blkT X 43 (enP o2), blkT wr.heap.size 38 [.int .i64 2, .int .i64 A, .int .i64 B], blkT b 72 (vwL cs r seq (runV seq j u)), blkT w.heap.size 24 cl])
          case atStart => exact ⟨0, _, o, by omega, rfl, rfl, by first | rfl | simp, HS.out⟩
          case round =>
            clear HS honeO
            obtain ⟨j, X, o2, hg2, rfl, rfl, rfl, hS⟩ := hrel
            have HS := Lib.hid hS; clear hS
            by_cases hj : j < 0
            · exfalso; omega
            · obtain rfl : j = 0 := by omega
              rw [decide_eq_false hj]
              have q0 := (HS.out.blk 1 rfl).cell 0
              have q2 := (HS.out.blk 1 rfl).cell 2
              have ql := (HS.out.blk 1 rfl).lt
              simp only [List.getElem?_cons_zero, List.getElem?_cons_succ] at q0 q2
              have hb11 : bits .and .i64 1 1 = 1 := by decide
              have hb21 : bits .and .i64 2 1 = 0 := by decide
              go_wp2_with fail
              refine (vend_any _ b cs hsz r seq _ (HS.out.blk 2 rfl)).mono ?_
              rintro e w8 ⟨rfl, hf⟩
              rw [HRD2.out.good]
              have HS := Lib.hid (HS.out.fr0 hf); clear hf
              go_wp2_with fail
              refine (held_any _ b cs hsz r seq _ (HS.out.blk 2 rfl)).mono ?_
              rintro e w9 ⟨rfl, hf⟩
              rw [HRD2.out.held]
              have HS := Lib.hid (HS.out.fr0 hf); clear hf
              go_wp2_with fail
              go_roundg (L.length - (k + 1))
              case measure => omega
              case rel => exact ⟨k + 1, runV seq 0 u, by omega, by rw [HRD2.out.held], by go_num, HRD2.out.good, HS.out.tail.tail⟩
        · have hvh : (v.held == B) = false := by simpa using hv
          have hR0 := HRD.out 2 B A v hvs (by omega) hB0 hA0
          simp [hv] at hR0
          clear hv
          have hKe2 : bits .and .i64 k0 3 = 2 := hKe
          clear hKe hKn
          have HSB := Lib.hid (HS.out.new 38 [.int .i64 2, .int .i64 A, .int .i64 B])
          have HCL := Lib.hid (HSB.out.blk 2 rfl).range
          go_wp2_with (refine wpList_load_any 24 _ rfl rfl _ 0 rfl cl _ HCL.out Try.underlying24 rfl (by rw [hsz6]; kernel_rfl) ?_)
          have HS := HSB; clear HSB HCL
          refine (HS.out.call 1 rfl (fun R hR => HBG.out _ _ R b v 2 A B hR)).mono ?_
          rintro e w4 ⟨rfl, hS⟩
          simp only [List.set_cons_zero, List.set_cons_succ] at hS
          have hRd : Reads seq (beg c 2 A B v) 2 B := hR0
          generalize beg c 2 A B v = u at hS hRd
          have HS := Lib.hid hS; clear hS
          have HAS : Hid (∀ j, j ≤ 2 → (Vw.ask c r (runV seq j u)).2 = decide (j < 2)) := fun j hj => by
            by_cases h : j < 2
            · rw [ask_on c r _ (hRd.on j h), decide_eq_true h]
            · obtain rfl : j = 2 := by omega
              rw [ask_off c r _ hRd.off, decide_eq_false h]
          have HRD2 := Lib.hid hRd; clear hRd
          clear y0 y1 y2 c1 cl0
          go_wp2_with fail
          refine (HAK.out _ b u (HS.out.blk 1 rfl)).mono ?_
          rintro e w5 ⟨rfl, hf⟩
          rw [show (Vw.ask c r u).2 = decide (0 < 2) from HAS.out 0 (by omega)]
          generalize (Vw.ask c r u).1 = o
          have hS := (HS.out.fr0 hf).new 43 (enP o)
          have HS := Lib.hid hS; clear hS hf
          have honeO := enP_one o
          go_wp2_with (refine wpList_store_new 43 _ (enP o).toArray rfl _ _ rfl rfl rfl (by kernel_rfl) (by simp [enP]) (all_oneCell_toArray honeO) ?_)
          go_loopg [15, 16, 17] 2 (fun g2 v15 v16 v17 wr2 => ∃ j X o2, g2 + j = 2 ∧ v15 = .int .i64 (j : Int) ∧ v16 = .pointer (some ⟨X, 0, none⟩) ∧ v17 = .bool (decide (j < 2)) ∧ Sep w wr2 [blkT X 43 (enP o2), blkT wr.heap.size 38 [.int .i64 2, .int .i64 A, .int .i64 B], blkT b 72 (vwL cs r seq (runV seq j u)), blkT w.heap.size 24 cl])
          case atStart => exact ⟨0, _, o, by omega, rfl, rfl, by first | rfl | simp, HS.out⟩
          case round =>
            clear HS honeO
            obtain ⟨j, X, o2, hg2, rfl, rfl, rfl, hS⟩ := hrel
            have HS := Lib.hid hS; clear hS
            by_cases hj : j < 2
            · rw [decide_eq_true hj]
              have hj9 : (j : Int) < 9 := by omega
              go_wp2_with fail
              refine (HS.out.call 2 rfl (fun R hR => vtell_any b cs hsz r seq (runV seq j u) 1 seq true hR)).mono ?_
              rintro e w6 ⟨rfl, hS⟩
              simp only [List.set_cons_zero, List.set_cons_succ] at hS
              rw [← runV_succ] at hS
              have HS := Lib.hid hS
              have HS2 := Lib.hid (hS.new 43 (enP o2)); clear hS
              have honeO := enP_one o2
              go_wp2_with (first | (refine wpList_load_any 43 _ rfl rfl _ 0 rfl (enP o2) _ (HS.out.blk 0 rfl).range Try.underlying43 rfl (by kernel_rfl) ?_) | (refine wpList_store_new 43 _ (enP o2).toArray rfl _ _ rfl rfl rfl (by kernel_rfl) (by simp [enP]) (all_oneCell_toArray honeO) ?_))
              refine (HAK.out _ b (runV seq (j + 1) u) (HS2.out.blk 3 rfl)).mono ?_
              rintro e w7 ⟨rfl, hf⟩
              rw [show (Vw.ask c r (runV seq (j + 1) u)).2 = decide (j + 1 < 2) from HAS.out (j + 1) (by omega)]
              have HS := Lib.hid (HS2.out.fr0 hf); clear hf HS2
              go_wp2_with fail
              go_roundg (2 - (j + 1))
              case measure => omega
              case rel => exact ⟨j + 1, _, o2, by omega, by go_num, rfl, by first | rfl | simp, HS.out.snd⟩
            · obtain rfl : j = 2 := by omega
              rw [decide_eq_false hj]
              have q0 := (HS.out.blk 1 rfl).cell 0
              have q2 := (HS.out.blk 1 rfl).cell 2
              have ql := (HS.out.blk 1 rfl).lt
              simp only [List.getElem?_cons_zero, List.getElem?_cons_succ] at q0 q2
              have hb11 : bits .and .i64 1 1 = 1 := by decide
              have hb21 : bits .and .i64 2 1 = 0 := by decide
              go_wp2_with fail
              refine (vend_any _ b cs hsz r seq _ (HS.out.blk 2 rfl)).mono ?_
              rintro e w8 ⟨rfl, hf⟩
              rw [HRD2.out.good]
              have HS := Lib.hid (HS.out.fr0 hf); clear hf
              go_wp2_with fail
              refine (held_any _ b cs hsz r seq _ (HS.out.blk 2 rfl)).mono ?_
              rintro e w9 ⟨rfl, hf⟩
              rw [HRD2.out.held]
              have HS := Lib.hid (HS.out.fr0 hf); clear hf
              go_wp2_with fail
              go_roundg (L.length - (k + 1))
              case measure => omega
              case rel => exact ⟨k + 1, runV seq 2 u, by omega, by rw [HRD2.out.held], by go_num, HRD2.out.good, HS.out.tail.tail⟩
      · have hR0 := HRD.out 3 B A v hvs (by omega) hB0 hA0
        simp at hR0
        have hKe2 : bits .and .i64 k0 3 = 3 := hKe
        clear hKe hKn
        have HSB := Lib.hid (HS.out.new 38 [.int .i64 3, .int .i64 A, .int .i64 B])
        have HCL := Lib.hid (HSB.out.blk 2 rfl).range
        go_wp2_with (refine wpList_load_any 24 _ rfl rfl _ 0 rfl cl _ HCL.out Try.underlying24 rfl (by rw [hsz6]; kernel_rfl) ?_)
        have HS := HSB; clear HSB HCL
        refine (HS.out.call 1 rfl (fun R hR => HBG.out _ _ R b v 3 A B hR)).mono ?_
        rintro e w4 ⟨rfl, hS⟩
        simp only [List.set_cons_zero, List.set_cons_succ] at hS
        have hRd : Reads seq (beg c 3 A B v) 1 v.held := hR0
        generalize beg c 3 A B v = u at hS hRd
        have HS := Lib.hid hS; clear hS
        have HAS : Hid (∀ j, j ≤ 1 → (Vw.ask c r (runV seq j u)).2 = decide (j < 1)) := fun j hj => by
          by_cases h : j < 1
          · rw [ask_on c r _ (hRd.on j h), decide_eq_true h]
          · obtain rfl : j = 1 := by omega
            rw [ask_off c r _ hRd.off, decide_eq_false h]
        have HRD2 := Lib.hid hRd; clear hRd
        clear y0 y1 y2 c1 cl0
        go_wp2_with fail
        refine (HAK.out _ b u (HS.out.blk 1 rfl)).mono ?_
        rintro e w5 ⟨rfl, hf⟩
        rw [show (Vw.ask c r u).2 = decide (0 < 1) from HAS.out 0 (by omega)]
        generalize (Vw.ask c r u).1 = o
        have hS := (HS.out.fr0 hf).new 43 (enP o)
        have HS := Lib.hid hS; clear hS hf
        have honeO := enP_one o
        go_wp2_with (refine wpList_store_new 43 _ (enP o).toArray rfl _ _ rfl rfl rfl (by kernel_rfl) (by simp [enP]) (all_oneCell_toArray honeO) ?_)
        go_loopg [15, 16, 17] 1 (fun g2 v15 v16 v17 wr2 => ∃ j X o2, g2 + j = 1 ∧ v15 = .int .i64 (j : Int) ∧ v16 = .pointer (some ⟨X, 0, none⟩) ∧ v17 = .bool (decide (j < 1)) ∧ Sep w wr2 [blkT X 43 (enP o2), blkT wr.heap.size 38 [.int .i64 3, .int .i64 A, .int .i64 B], blkT b 72 (vwL cs r seq (runV seq j u)), blkT w.heap.size 24 cl])
        case atStart => exact ⟨0, _, o, by omega, rfl, rfl, by first | rfl | simp, HS.out⟩
        case round =>
          clear HS honeO
          obtain ⟨j, X, o2, hg2, rfl, rfl, rfl, hS⟩ := hrel
          have HS := Lib.hid hS; clear hS
          by_cases hj : j < 1
          · rw [decide_eq_true hj]
            have hj9 : (j : Int) < 9 := by omega
            go_wp2_with fail
            refine (HS.out.call 2 rfl (fun R hR => vtell_any b cs hsz r seq (runV seq j u) 1 seq true hR)).mono ?_
            rintro e w6 ⟨rfl, hS⟩
            simp only [List.set_cons_zero, List.set_cons_succ] at hS
            rw [← runV_succ] at hS
            have HS := Lib.hid hS
            have HS2 := Lib.hid (hS.new 43 (enP o2)); clear hS
            have honeO := enP_one o2
            go_wp2_with (first | (refine wpList_load_any 43 _ rfl rfl _ 0 rfl (enP o2) _ (HS.out.blk 0 rfl).range Try.underlying43 rfl (by kernel_rfl) ?_) | (refine wpList_store_new 43 _ (enP o2).toArray rfl _ _ rfl rfl rfl (by kernel_rfl) (by simp [enP]) (all_oneCell_toArray honeO) ?_))
            refine (HAK.out _ b (runV seq (j + 1) u) (HS2.out.blk 3 rfl)).mono ?_
            rintro e w7 ⟨rfl, hf⟩
            rw [show (Vw.ask c r (runV seq (j + 1) u)).2 = decide (j + 1 < 1) from HAS.out (j + 1) (by omega)]
            have HS := Lib.hid (HS2.out.fr0 hf); clear hf HS2
            go_wp2_with fail
            go_roundg (1 - (j + 1))
            case measure => omega
            case rel => exact ⟨j + 1, _, o2, by omega, by go_num, rfl, by first | rfl | simp, HS.out.snd⟩
          · obtain rfl : j = 1 := by omega
            rw [decide_eq_false hj]
            have q0 := (HS.out.blk 1 rfl).cell 0
            have q2 := (HS.out.blk 1 rfl).cell 2
            have ql := (HS.out.blk 1 rfl).lt
            simp only [List.getElem?_cons_zero, List.getElem?_cons_succ] at q0 q2
            have hb11 : bits .and .i64 1 1 = 1 := by decide
            have hb21 : bits .and .i64 2 1 = 0 := by decide
            go_wp2_with fail
            refine (vend_any _ b cs hsz r seq _ (HS.out.blk 2 rfl)).mono ?_
            rintro e w8 ⟨rfl, hf⟩
            rw [HRD2.out.good]
            have HS := Lib.hid (HS.out.fr0 hf); clear hf
            go_wp2_with fail
            refine (held_any _ b cs hsz r seq _ (HS.out.blk 2 rfl)).mono ?_
            rintro e w9 ⟨rfl, hf⟩
            rw [HRD2.out.held]
            have HS := Lib.hid (HS.out.fr0 hf); clear hf
            go_wp2_with fail
            go_roundg (L.length - (k + 1))
            case measure => omega
            case rel => exact ⟨k + 1, runV seq 1 u, by omega, by rw [HRD2.out.held], by go_num, HRD2.out.good, HS.out.tail.tail⟩
    · obtain rfl : k = L.length := by omega
      have HS := Lib.hid hS; clear hS
      go_wp2_with fail
      go_ret
      exact ⟨rfl, HS.out.fr⟩
theorem steps_any (w : World) (c : Cfg) (who seq : Int) (a : Option Addr) (m lc : Nat) (L : List Rq) (hL : ArgE enR 3 w (.slice a m lc) L) (hLm : m = L.length) :
    Calls Try.prog 5 #[cfgV c, .int .i64 who, .int .u64 seq, .slice a m lc] w fun e w' => e = .returned (.bool true) ∧ Fr [] w w' := by
  by_cases h0 : right c = true
  · by_cases h1 : m > 20
    · exact steps_s1 w c who seq a m lc h0 (by simp; omega)
    · exact steps_good w c (by unfold right at h0; simpa using h0) who seq a m lc L hLm.symm hL (by omega) h0
  · exact steps_s0 w c who seq a m lc (by simpa using h0)
theorem steps_row (a b d f g l who seq : Int) (v : Value) (L : List Rq) (w : World) (hL : ArgE enR 3 w v L) (_ : L.length ≤ maxLen) :
    Calls Try.prog 5 #[.agg #[.int .i64 a, .int .i64 b, .int .i64 d, .int .i64 f, .int .u64 g, .int .u64 l], .int .i64 who, .int .u64 seq, v] w fun e w' => e = .returned (.bool true) ∧ Fr [] w w' := by
  obtain ⟨a1, c1, rfl, _⟩ := id hL
  exact steps_any w ⟨a, b, d, f, g, l⟩ who seq a1 _ c1 L hL rfl
end Go.Proofs.Ytndanamaadhdaaa
