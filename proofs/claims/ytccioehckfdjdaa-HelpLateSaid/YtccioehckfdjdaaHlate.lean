/- The law HelpLate, walked. -/
import Derived.Test.YtccioehckfdjdaaHpar3
import Derived.Test.YtccioehckfdjdaaHsl
set_option linter.unusedSimpArgs false
set_option linter.unusedVariables false
namespace Go.Proofs.Ytccioehckfdjdaa
open Go.RowKit Go.Tum Go.Tum.Y Go.Tum.Sc
set_option maxRecDepth 100000 in
set_option maxHeartbeats 4000000 in
theorem hlate_s0 (w : World) (c : Cfg) (owner ahead : Int) (a : Option Addr) (m lc : Nat) (hrc : right c = false) : Calls Try.prog 12 #[cfgV c, .int .i64 owner, .slice a m lc, .int .i64 ahead] w fun e w' => e = .returned (.bool true) ∧ Fr [] w w' := by
  have HS := Lib.hid ((Sep.nil (Fr.refl [] w)).new 24 (cfgL c))
  have HR := Lib.hid (fun w => rright12_any w c)
  have hsz6 : (cfgL c).length = 6 := rfl
  have g0 : (cfgL c)[0]? = some (.int .i64 c.t) := rfl
  have g4 : (cfgL c)[4]? = some (.int .u64 c.fi) := rfl
  have g5 : (cfgL c)[5]? = some (.int .u64 c.la) := rfl
  rw [show cfgV c = .agg (cfgL c).toArray from rfl] at *
  generalize cfgL c = cl at *
  go_enter Try.func12, Try.ntmps12
  go_wp2_with fail
  refine (alive12_any _).mono ?_
  rintro e w1 ⟨rfl, hf⟩
  have HS := Lib.hid (HS.out.fr0 hf)
  clear hf
  go_wp2_with (refine wpList_load_any 24 _ rfl rfl _ 0 rfl cl _ (HS.out.blk 0 rfl).range Try.underlying24 rfl (by rw [hsz6]; kernel_rfl) ?_)
  refine (HR.out _).mono ?_
  rintro e w1 ⟨rfl, hf⟩
  have HS := Lib.hid (HS.out.fr0 hf)
  clear hf
  rw [hrc]
  go_wp2_with fail
  go_ret
  exact ⟨rfl, HS.out.fr⟩
set_option maxRecDepth 100000 in
set_option maxHeartbeats 40000000 in
theorem hlate_good (w : World) (c : Cfg) (h : Ok c) (hf0 : 0 ≤ c.fi) (owner ahead : Int) (a : Option Addr) (m lc : Nat) (L : List (Int × Int)) (hLm : m = L.length) (hL : ArgE enE 2 w (.slice a m lc) L) (hG : ∀ e ∈ L, goodE e) (hnil : NilA a m lc) (hmx : m ≤ maxLen) (hrc : right c = true) :
    Calls Try.prog 12 #[cfgV c, .int .i64 owner, .slice a m lc, .int .i64 ahead] w fun e w' => e = .returned (.bool true) ∧ Fr [] w w' := by
  have ht1 := h.t1
  have ht8 := h.t8
  have hfl := h.fl
  have hl47 := h.l47
  have HRT := Lib.hid (fun w hL => right12_any w c h a m lc L hLm.symm hL hG hmx)
  have HOF : Hid (∀ w, Calls Try.prog 25 #[.agg (cfgL c).toArray] w fun e w' => e = .returned (.tuple #[mapV c, .int .i64 0]) ∧ Fr [] w w') := fun w => of_good w c h
  obtain ⟨b2, hb2, hbe2⟩ := and_i64_low owner 8 (by decide)
  obtain ⟨q2, hq2⟩ : ∃ q : Int, q = (b2 : Int) := ⟨_, rfl⟩
  have hbe2' : bits .and .i64 owner 255 = q2 := by rw [hq2]; exact hbe2
  have hq20 : 0 ≤ q2 ∧ q2 ≤ 255 := by rw [hq2]; omega
  obtain ⟨r2, hr2⟩ : ∃ r, Int.tmod q2 c.t = r := ⟨_, rfl⟩
  have hr20 := tmod_in hr2 hq20.1 ht1
  obtain ⟨r1, hr1⟩ : ∃ r, Int.tmod (r2 + 1) c.t = r := ⟨_, rfl⟩
  have hr10 := tmod_in hr1 (by omega) ht1
  obtain ⟨b3, hb3, hbe3⟩ := and_i64_low ahead 7 (by decide)
  obtain ⟨q3, hq3⟩ : ∃ q : Nat, q = b3 := ⟨_, rfl⟩
  have hbe3' : bits .and .i64 ahead 127 = (q3 : Int) := by rw [hq3]; exact hbe3
  have hq30 : q3 ≤ 127 := by omega
  clear hbe2 hb2 hq2 hbe3 hb3 hq3
  obtain ⟨sq, hsq⟩ : ∃ sq, sq = c.fi + 1 := ⟨_, rfl⟩
  have HLD := Lib.hid (fun w hA hm => laid_any w c h r2 sq a m lc L hLm hA hm)
  have HOW := Lib.hid (fun w hA hm => hown_any w c h r2 sq a m lc L hLm hA hnil hm)
  have HNW := Lib.hid (fun w => hnew_of w c r1 r2 sq)
  have HAK := Lib.hid (fun (w0 w : World) (R : List Thing) (b : Nat) (u : Int) (hh : H.H) (hg : H.Good c hh) (hS : Sep w0 w (helpT c u r2 sq b hh :: R)) => hask_of b c h u r2 sq hh hg hS)
  have HTL := Lib.hid (fun (w0 w : World) (R : List Thing) (b : Nat) (u : Int) (hh : H.H) (x s : Int) (ok : Bool) hx hs hg hr (hS : Sep w0 w (helpT c u r2 sq b hh :: R)) => htell_any b c h u r2 sq hh x s ok hx hs hg hr hS)
  have HDN := Lib.hid (fun (w0 w : World) (R : List Thing) (b : Nat) (u : Int) (hh : H.H) (hS : Sep w0 w (helpT c u r2 sq b hh :: R)) => hdone_of b c u r2 sq hh hS)
  have HAD := Lib.hid (fun (u : Int) (hh : H.H) (hi : H.Inv c hh) => H.ask_done (c := c) (who := u) (owner := r2) (seq := sq) hi.rng)
  have HDO := Lib.hid (fun (w0 w : World) (R : List Thing) (b : Nat) (mm : C.M) (hS : Sep w0 w (memT b mm :: R)) (ht : mm.trace.length ≤ 100000) (u : Int) (p : P6) => mdo_any hS ht u (H.op6 p))
  have HWH := Lib.hid (fun p => what_all h p)
  unfold Tells at HWH
  unfold outVm at HDO
  simp only [opVm_of] at HDO
  have hsw : IntKind.u64.wrap (c.fi + 1) = sq := by rw [IntKind.wrap_u64]; omega
  have HSQ := Lib.hid hsq; clear hsq
  have hsz : (mapCells c).length = 24 := rfl
  have hone : ∀ v ∈ mapCells c, v.oneCell' = true := by simp [mapCells, Value.oneCell']
  have HLM := Lib.hid hLm; clear hLm
  unfold mapV at *
  generalize mapCells c = cs at *
  have HS := Lib.hid ((Sep.nil (Fr.refl [] w)).new 24 (cfgL c))
  have HR := Lib.hid (fun w => rright12_any w c)
  have hsz6 : (cfgL c).length = 6 := rfl
  have g0 : (cfgL c)[0]? = some (.int .i64 c.t) := rfl
  have g4 : (cfgL c)[4]? = some (.int .u64 c.fi) := rfl
  have g5 : (cfgL c)[5]? = some (.int .u64 c.la) := rfl
  rw [show cfgV c = .agg (cfgL c).toArray from rfl] at *
  generalize cfgL c = cl at *
  go_enter Try.func12, Try.ntmps12
  go_wp2_with fail
  refine (alive12_any _).mono ?_
  rintro e w1 ⟨rfl, hf⟩
  have HS := Lib.hid (HS.out.fr0 hf)
  clear hf
  go_wp2_with (refine wpList_load_any 24 _ rfl rfl _ 0 rfl cl _ (HS.out.blk 0 rfl).range Try.underlying24 rfl (by rw [hsz6]; kernel_rfl) ?_)
  refine (HR.out _).mono ?_
  rintro e w1 ⟨rfl, hf⟩
  have HS := Lib.hid (HS.out.fr0 hf)
  clear hf
  rw [hrc]
  go_wp2_with (refine wpList_load_any 24 _ rfl rfl _ 0 rfl cl _ (HS.out.blk 0 rfl).range Try.underlying24 rfl (by rw [hsz6]; kernel_rfl) ?_)
  refine (HRT.out _ (hL.fr HS.out.fr)).mono ?_
  rintro e w1 ⟨⟨r, rfl, hrr⟩, hf⟩
  have HS := Lib.hid (HS.out.fr0 hf); clear hf
  have HRR := Lib.hid hrr; clear hrr
  cases r
  · go_wp2_with fail
    go_ret
    exact ⟨rfl, HS.out.fr⟩
  have hR := HRR.out rfl
  have HRI := Lib.hid hR; clear hR HRR
  have c0 := ((HS.out.blk 0 rfl).cell 0).trans g0
  have c4 := ((HS.out.blk 0 rfl).cell 4).trans g4
  have c5 := ((HS.out.blk 0 rfl).cell 5).trans g5
  have cl0 := (HS.out.blk 0 rfl).lt
  by_cases hfe : c.fi = c.la
  · have d1 : (c.fi == c.la) = true := by simpa using hfe
    go_wp2_with fail
    go_ret
    exact ⟨rfl, HS.out.fr⟩
  have d1 : (c.fi == c.la) = false := by simpa using hfe
  by_cases ht2 : c.t < 2
  · have d2 : decide (c.t < 2) = true := by simpa using ht2
    go_wp2_with fail
    go_ret
    exact ⟨rfl, HS.out.fr⟩
  have d2 : decide (c.t < 2) = false := by simp; omega
  go_wp2_with (refine wpList_load_any 24 _ rfl rfl _ 0 rfl cl _ (HS.out.blk 0 rfl).range Try.underlying24 rfl (by rw [hsz6]; kernel_rfl) ?_)
  refine (HOF.out _).mono ?_
  rintro e w2 ⟨rfl, hf⟩
  have HS := Lib.hid ((HS.out.fr0 hf).new 31 cs); clear hf c0 c4 c5 cl0
  have c0 := ((HS.out.blk 1 rfl).cell 0).trans g0
  have c4 := ((HS.out.blk 1 rfl).cell 4).trans g4
  have cl0 := (HS.out.blk 1 rfl).lt
  go_wp2_with (first | (refine wpList_store_new 31 _ (cs).toArray rfl _ _ rfl rfl rfl (by rw [List.size_toArray, hsz]; kernel_rfl) (by simp [hsz]) (all_oneCell_toArray hone) ?_) | (refine wpList_load_any 31 _ rfl rfl _ 0 rfl cs _ (HS.out.blk 0 rfl).range Try.underlying31 rfl (by rw [hsz]; kernel_rfl) ?_))
  refine (HLD.out _ (hL.fr HS.out.fr) (by have := HRI.out.2.1; have := HLM.out; omega)).mono ?_
  rintro e w3 ⟨mb, rfl, hN⟩
  have hS := HS.out.append hN
  simp only [List.cons_append, List.nil_append] at hS
  have HS := Lib.hid hS; clear hS hN c0 c4 cl0
  go_wp2_with (refine wpList_load_any 31 _ rfl rfl _ 0 rfl cs _ (HS.out.blk 1 rfl).range Try.underlying31 rfl (by rw [hsz]; kernel_rfl) ?_)
  refine (HNW.out _).mono ?_
  rintro e w4 ⟨hb, rfl, hN⟩
  have hS := HS.out.append hN
  simp only [List.cons_append, List.nil_append] at hS
  have hS := hS.new 114 [.pointer (some ⟨hb, 0, none⟩)]
  have HS := Lib.hid hS; clear hS hN
  obtain ⟨B, hB⟩ : ∃ B, B = H.laidM c r2 sq L := ⟨_, rfl⟩
  have hS := HS.out
  rw [← hB] at hS
  have HS := Lib.hid hS; clear hS
  have hsq1 : 1 ≤ sq := by have := HSQ.out; omega
  have HJ : Hid (H.Job c r2 sq L B) := by rw [hB]; exact H.laid_job h hf0 hr20 HRI.out.1 hsq1
  have HK0 : Hid (H.MOk c r2 sq L B B ∧ H.TOk c r2 sq L B B H.hNew ∧ B.trace.length ≤ 0) := by
    rw [hB]
    exact ⟨H.laid_mok h hf0 hr20 HRI.out.1 hsq1 (H.laid_len _ _ _ _) (fun _ _ => rfl), H.tok_new (H.laid_job h hf0 hr20 HRI.out.1 hsq1) _, by rw [H.laid_tr]; simp⟩
  have HST := Lib.hid (fun (u : Int) (hh : H.H) (mm : C.M) (hm : H.MOk c r2 sq L B mm) (ht : H.TOk c r2 sq L B mm hh) (hw : 0 ≤ u ∧ u < c.t) (h8 : hh.next ≠ 8) => H.step_ok HJ.out hm ht hw h8)
  clear hB HLD HNW hfl hl47 hsw hr1 hr2 hbe2' d1 d2 hfe ht2
  have hq3i : (q3 : Int) ≤ 127 := by omega
  go_wp2_with fail
  clear hbe3'
  go_loopg [86] q3 (fun g vi wr => ∃ (k : Nat) (hh : H.H) (mm : C.M), g + k = q3 ∧ vi = .int .i64 (k : Int) ∧ (H.MOk c r2 sq L B mm ∧ H.TOk c r2 sq L B mm hh ∧ mm.trace.length ≤ k) ∧ Sep w wr [blkT w4.heap.size 114 [.pointer (some ⟨hb, 0, none⟩)], helpT c r1 r2 sq hb hh, memT mb mm, blkT w2.heap.size 31 cs, blkT w.heap.size 24 cl])
  case atStart => exact ⟨0, _, _, by omega, rfl, HK0.out, HS.out⟩
  case round =>
    clear HS HK0
    obtain ⟨k, hh, mm, hgk, rfl, hk0, hS⟩ := hrel
    have HK := Lib.hid hk0; clear hk0
    have HS := Lib.hid hS; clear hS
    by_cases hk : k < q3
    · have hki : (k : Int) < (q3 : Int) := by omega
      have p0 := (HS.out.blk 0 rfl).cell 0
      have pl := (HS.out.blk 0 rfl).lt
      simp only [List.getElem?_cons_zero] at p0
      go_wp2_with fail
      refine (HAK.out _ _ _ hb r1 hh HK.out.2.1.inv.good (HS.out.pull 1 rfl)).mono ?_
      rintro e w5 ⟨rfl, hf⟩
      rw [HAD.out r1 hh HK.out.2.1.inv]
      generalize hoo : (H.ask c r1 r2 sq hh).1 = o
      have HOO := Lib.hid hoo; clear hoo
      have hS := (HS.out.fr0 hf).new 43 (enP o)
      have HS := Lib.hid hS; clear hS hf p0 pl
      have honeO := enP_one o
      have o0 := (HS.out.blk 0 rfl).cell 0
      rw [show (enP o)[0]? = some (.int .i64 o.k) from rfl] at o0
      have ol := (HS.out.blk 0 rfl).lt
      by_cases h8 : hh.next = 8
      · rw [decide_eq_true h8]
        go_wp2_with (refine wpList_store_new 43 _ (enP o).toArray rfl _ _ rfl rfl rfl (by kernel_rfl) (by simp [enP]) (all_oneCell_toArray honeO) ?_)
        go_roundg (q3 - (k + 1))
        case measure => omega
        case rel => exact ⟨k + 1, _, _, by omega, by go_num, ⟨HK.out.1, HK.out.2.1, by have := HK.out.2.2; omega⟩, HS.out.sub [1, 2, 3, 4, 5] rfl (by decide)⟩
      rw [decide_eq_false h8]
      have HH8 := Lib.hid h8; clear h8
      by_cases hk0 : o.k = 0
      · have dk : (o.k == 0) = true := by simpa using hk0
        go_wp2_with (first | (refine wpList_store_new 43 _ (enP o).toArray rfl _ _ rfl rfl rfl (by kernel_rfl) (by simp [enP]) (all_oneCell_toArray honeO) ?_) | (refine wpList_load_any 43 _ rfl rfl _ 0 rfl (enP o) _ (HS.out.blk 0 rfl).range Try.underlying43 rfl (by kernel_rfl) ?_))
        have hstp := HST.out r1 hh mm HK.out.1 HK.out.2.1 hr10 HH8.out
        rw [HOO.out] at hstp
        have HSTP := Lib.hid hstp; clear hstp
        refine (HDO.out _ _ _ mb mm (HS.out.pull 3 rfl) (by have := HK.out.2.2; omega) r1 o).mono ?_
        rintro e w6 ⟨rfl, hS⟩
        have hva := HSTP.out.val
        have HNX : Hid ((H.MOk c r2 sq L B (mm.step r1 (H.op6 o)) ∧ H.TOk c r2 sq L B (mm.step r1 (H.op6 o)) (H.tell c sq (mm.told r1 (H.op6 o)).v (mm.told r1 (H.op6 o)).s hh) ∧ (mm.step r1 (H.op6 o)).trace.length ≤ k + 1)) :=
          ⟨HSTP.out.mem, HSTP.out.thr, by rw [H.step_trace1 HSTP.out.err]; have := HK.out.2.2; omega⟩
        clear HSTP
        generalize mm.told r1 (H.op6 o) = tt at *
        obtain ⟨t0, t1, t2⟩ := tt
        dsimp only at hva HNX
        generalize mm.step r1 (H.op6 o) = mm2 at *
        generalize C.err mm.cells.length r1 (H.op6 o) = er at *
        have HS := Lib.hid (hS.new 55 [.int .u64 t0, .int .u64 t1, .bool t2]); clear hS o0 ol
        have p0 := (HS.out.blk 3 rfl).cell 0
        have z0 := (HS.out.blk 0 rfl).cell 0
        have z1 := (HS.out.blk 0 rfl).cell 1
        have z2 := (HS.out.blk 0 rfl).cell 2
        have pl := (HS.out.blk 3 rfl).lt
        have zl := (HS.out.blk 0 rfl).lt
        simp only [List.getElem?_cons_zero, List.getElem?_cons_succ] at p0 z0 z1 z2
        go_wp2_with fail
        refine wp_region_fr [(1, [0, 1, 2, 3]), (3, [4])] [] (by kernel_rfl) (by kernel_rfl) ?_
        simp only [theOps, nthOp, List.map_cons, List.map_nil, Array.getD_eq_getD_getElem?, List.getElem?_toArray, List.getElem?_cons_succ, List.getElem?_cons_zero, Option.getD_some]
        repeat ((first | refine wpSegs_soft ?_ | refine wpSegs_pure ?_ | refine wpSegs_here ?_); (repeat (first | go_big_quiet_step (fail) | quiet_step (fail))); refine wpQuiet_nil ?_)
        refine wpSegs_hard ?_
        go_wp2_with fail
        refine (HTL.out _ _ _ hb r1 hh t0 t1 t2 hva.1 hva.2 HK.out.2.1.inv.good HK.out.2.1.inv.rng (HS.out.drew.pull 4 rfl)).mono ?_
        rintro e w7 ⟨rfl, hS⟩
        have HS := Lib.hid hS; clear hS p0 pl z0 z1 z2 zl hva
        go_wp2_with fail
        refine wpSegs_done ?_
        go_wp2_with fail
        go_roundg (q3 - (k + 1))
        case measure => omega
        case rel => exact ⟨k + 1, _, _, by omega, by go_num, HNX.out, HS.out.sub [4, 0, 2, 5, 6] rfl (by decide)⟩
      · have dk : (o.k == 0) = false := by simpa using hk0
        go_wp2_with (refine wpList_store_new 43 _ (enP o).toArray rfl _ _ rfl rfl rfl (by kernel_rfl) (by simp [enP]) (all_oneCell_toArray honeO) ?_)
        go_roundg (q3 - (k + 1))
        case measure => omega
        case rel => exact ⟨k + 1, _, _, by omega, by go_num, ⟨HK.out.1, HK.out.2.1, by have := HK.out.2.2; omega⟩, HS.out.sub [1, 2, 3, 4, 5] rfl (by decide)⟩
    · obtain rfl : k = q3 := by omega
      have hm30 : m ≤ 30 := by have := HRI.out.2.1; have := HLM.out; omega
      go_wp2_with (refine wpList_load_any 31 _ rfl rfl _ 0 rfl cs _ (HS.out.blk 3 rfl).range Try.underlying31 rfl (by rw [hsz]; kernel_rfl) ?_)
      refine (HOW.out _ (hL.fr HS.out.fr) (by omega)).mono ?_
      rintro e w5 ⟨ob, rfl, hN⟩
      have hS := HS.out.append hN
      simp only [List.cons_append, List.nil_append] at hS
      have HS := Lib.hid hS; clear hS hN HOW
      obtain ⟨ho, hho⟩ : ∃ ho, ho = H.entry c ⟨L, 0, 0, -1, 0, 0, 0⟩ 0 := ⟨_, rfl⟩
      rw [← hho] at HS
      have HKO : Hid (H.TOk c r2 sq L B mm ho) := by rw [hho]; exact H.tok_own HJ.out mm
      clear hho
      have hgas : H.ms L ho ≤ 153 := by have := HKO.out.most; have := HRI.out.2.1; omega
      go_wp2_with fail
      refine (HAK.out _ _ _ ob r2 ho HKO.out.inv.good (HS.out.pull 0 rfl)).mono ?_
      rintro e w6 ⟨rfl, hf⟩
      rw [HAD.out r2 ho HKO.out.inv]
      have hS := (HS.out.fr0 hf).new 43 (enP (H.ask c r2 r2 sq ho).1)
      have HS := Lib.hid hS; clear hS hf
      have honeO := enP_one (H.ask c r2 r2 sq ho).1
      go_wp2_with (refine wpList_store_new 43 _ (enP (H.ask c r2 r2 sq ho).1).toArray rfl _ _ rfl rfl rfl (by kernel_rfl) (by simp [enP]) (all_oneCell_toArray honeO) ?_)
      clear honeO
      obtain ⟨G, hG2⟩ : ∃ G : Nat, G = (H.ms L ho).toNat := ⟨_, rfl⟩
      have HGG := Lib.hid hG2; clear hG2
      have HK2 : Hid (H.MOk c r2 sq L B mm ∧ H.TOk c r2 sq L B mm hh ∧ H.TOk c r2 sq L B mm ho ∧ H.ms L ho = (G : Int) ∧ mm.trace.length + G ≤ 280) := ⟨HK.out.1, HK.out.2.1, HKO.out, by have := HGG.out; have := HKO.out.nn; omega, by have := HK.out.2.2; have := HGG.out; omega⟩
      clear HK HKO hgas HGG
      go_loopg [20, 21] G (fun g vp vb wr => ∃ (hh ho : H.H) (mm : C.M) (X : Nat), vp = .pointer (some ⟨X, 0, none⟩) ∧ vb = .bool (!decide (ho.next = 8)) ∧ (H.MOk c r2 sq L B mm ∧ H.TOk c r2 sq L B mm hh ∧ H.TOk c r2 sq L B mm ho ∧ H.ms L ho = (g : Int) ∧ mm.trace.length + g ≤ 280) ∧ Sep w wr [blkT X 43 (enP (H.ask c r2 r2 sq ho).1), helpT c r2 r2 sq ob ho, blkT w4.heap.size 114 [.pointer (some ⟨hb, 0, none⟩)], helpT c r1 r2 sq hb hh, memT mb mm, blkT w2.heap.size 31 cs, blkT w.heap.size 24 cl])
      case atStart => exact ⟨_, _, _, _, rfl, rfl, HK2.out, HS.out⟩
      case round =>
        clear HS HK2
        obtain ⟨hh, ho, mm, X, rfl, rfl, hk0, hS⟩ := hrel
        have HK := Lib.hid hk0; clear hk0
        have HS := Lib.hid hS; clear hS
        by_cases h8 : ho.next = 8
        · rw [decide_eq_true h8]
          have HH8 := Lib.hid h8; clear h8
          go_wp2_with fail
          refine (HDN.out _ _ _ ob r2 ho (HS.out.pull 1 rfl)).mono ?_
          rintro e w5 ⟨rfl, hf⟩
          rw [decide_eq_true HH8.out]
          have HS := Lib.hid ((HS.out.fr0 hf).sub (Ts' := [_, _, _, _, _]) [2, 3, 4, 5, 6] rfl (by decide)); clear hf
          go_wp2_with fail
          obtain ⟨_, vc, vt, hM⟩ := sep_mem HS.out 2 rfl
          refine (total_any _ mb vc vt mm hM).mono ?_
          rintro e w6 ⟨rfl, rfl⟩
          clear hM
          have HOP : Hid (H.rd mm (place c 4 r2 0) = (0, sq)) := HK.out.2.2.1.over HH8.out
          have hlb := HK.out.2.1.lnn
          have hLl := HRI.out.2.1
          have htl : mm.trace.length ≤ 280 := by have := HK.out.2.2.2.2; omega
          obtain ⟨n0, hn0⟩ : ∃ n0 : Nat, n0 = mm.trace.length := ⟨_, rfl⟩
          rw [← hn0]
          have HN0 := Lib.hid hn0; clear hn0
          have hnb : n0 ≤ 280 := by have := HN0.out; omega
          have p0 := (HS.out.blk 0 rfl).cell 0
          have pl := (HS.out.blk 0 rfl).lt
          simp only [List.getElem?_cons_zero] at p0
          go_wp2_with fail
          refine (HAK.out _ _ _ hb r1 hh HK.out.2.1.inv.good (HS.out.pull 1 rfl)).mono ?_
          rintro e w7 ⟨rfl, hf⟩
          rw [HAD.out r1 hh HK.out.2.1.inv]
          have hS := (HS.out.fr0 hf).new 43 (enP (H.ask c r1 r2 sq hh).1)
          have HS := Lib.hid hS; clear hS hf p0 pl
          have honeO := enP_one (H.ask c r1 r2 sq hh).1
          go_wp2_with (refine wpList_store_new 43 _ (enP (H.ask c r1 r2 sq hh).1).toArray rfl _ _ rfl rfl rfl (by kernel_rfl) (by simp [enP]) (all_oneCell_toArray honeO) ?_)
          clear honeO
          obtain ⟨G, hG2⟩ : ∃ G : Nat, G = (H.lms L hh).toNat := ⟨_, rfl⟩
          have HK2 : Hid (H.MOk c r2 sq L B mm ∧ H.TOk c r2 sq L B mm hh ∧ H.rd mm (place c 4 r2 0) = (0, sq) ∧ H.lms L hh = (G : Int) ∧ mm.trace.length + G ≤ n0 + L.length + 3) := ⟨HK.out.1, HK.out.2.1, HOP.out, by omega, by have := HN0.out; omega⟩
          clear HK HOP hlb htl hG2 HN0
          have hLm2 := HLM.out
          have hm2 : L.length = m := hLm2.symm
          have HM2 := Lib.hid hm2; clear hLm2 hm2
          go_loopg [25, 26] G (fun g vp vb wr => ∃ (hh : H.H) (mm : C.M) (X : Nat), vp = .pointer (some ⟨X, 0, none⟩) ∧ vb = .bool (!decide (hh.next = 8)) ∧ (H.MOk c r2 sq L B mm ∧ H.TOk c r2 sq L B mm hh ∧ H.rd mm (place c 4 r2 0) = (0, sq) ∧ H.lms L hh = (g : Int) ∧ mm.trace.length + g ≤ n0 + L.length + 3) ∧ Sep w wr [blkT X 43 (enP (H.ask c r1 r2 sq hh).1), blkT w4.heap.size 114 [.pointer (some ⟨hb, 0, none⟩)], helpT c r1 r2 sq hb hh, memT mb mm, blkT w2.heap.size 31 cs, blkT w.heap.size 24 cl])
          case atStart => exact ⟨_, _, _, rfl, rfl, HK2.out, HS.out⟩
          case round =>
            clear HS HK2
            obtain ⟨hh, mm, X, rfl, rfl, hk0, hS⟩ := hrel
            have HK := Lib.hid hk0; clear hk0
            have HS := Lib.hid hS; clear hS
            have p0 := (HS.out.blk 1 rfl).cell 0
            have pl := (HS.out.blk 1 rfl).lt
            simp only [List.getElem?_cons_zero] at p0
            by_cases h8 : hh.next = 8
            · rw [decide_eq_true h8]
              have HH8 := Lib.hid h8; clear h8
              go_wp2_with fail
              refine (HDN.out _ _ _ hb r1 hh (HS.out.pull 2 rfl)).mono ?_
              rintro e w8 ⟨rfl, hf⟩
              rw [decide_eq_true HH8.out]
              go_wp2_with fail
              go_ret
              exact ⟨rfl, (HS.out.fr0 hf).fr⟩
            · rw [decide_eq_false h8]
              have HH8 := Lib.hid h8; clear h8
              have hgp : 1 ≤ gk := by have := HK.out.2.1.lpos HH8.out; have := HK.out.2.2.2.1; omega
              generalize hoo : (H.ask c r1 r2 sq hh).1 = o at *
              have HOO := Lib.hid hoo; clear hoo
              have hstp := HST.out r1 hh mm HK.out.1 HK.out.2.1 hr10 HH8.out
              rw [HOO.out] at hstp
              have hcs := H.ask_cases h hr10 hr20 HK.out.2.1.inv (by have := HK.out.2.1.n; have := HJ.out.len; have := cap_bd h; omega) HH8.out HOO.out
              have HSTP := Lib.hid hstp; clear hstp
              have hdw := H.late_down HJ.out HK.out.1 HK.out.2.2.1 HK.out.2.1 HH8.out (mm.told r1 (H.op6 o)).v (mm.told r1 (H.op6 o)).s (by rw [H.told_rd HSTP.out.err, HOO.out]; exact rfl)
              have HW := Lib.hid (HWH.out o.a)
              have q1 := (HS.out.blk 0 rfl).cell 1
              rw [show (enP o)[1]? = some (.int .i64 o.a) from rfl] at q1
              have ql := (HS.out.blk 0 rfl).lt
              go_wp2_with (first | (refine wpList_load_any 31 _ rfl rfl _ 0 rfl cs _ (HS.out.blk 4 rfl).range Try.underlying31 rfl (by rw [hsz]; kernel_rfl) ?_))
              refine (HW.out _).mono ?_
              rintro e w8 ⟨rfl, hf⟩
              have HS := Lib.hid (HS.out.fr0 hf); clear hf q1 ql p0 pl HW
              go_wp2_with (refine wpList_load_any 43 _ rfl rfl _ 0 rfl (enP o) _ (HS.out.blk 0 rfl).range Try.underlying43 rfl (by kernel_rfl) ?_)
              refine (HDO.out _ _ _ mb mm (HS.out.pull 3 rfl) (by have := HK.out.2.2.2.2; omega) r1 o).mono ?_
              rintro e w9 ⟨rfl, hS⟩
              have hva := HSTP.out.val
              have hlt := HSTP.out.late HK.out.2.2.1
              have hokk : (H.op6 o).k = o.k := rfl
              rw [hokk] at hlt
              have HNX : Hid (H.MOk c r2 sq L B (mm.step r1 (H.op6 o)) ∧ H.TOk c r2 sq L B (mm.step r1 (H.op6 o)) (H.tell c sq (mm.told r1 (H.op6 o)).v (mm.told r1 (H.op6 o)).s hh) ∧ H.rd (mm.step r1 (H.op6 o)) (place c 4 r2 0) = (0, sq) ∧ H.lms L (H.tell c sq (mm.told r1 (H.op6 o)).v (mm.told r1 (H.op6 o)).s hh) < (gk : Int) ∧ (mm.step r1 (H.op6 o)).trace.length + gk ≤ n0 + L.length + 4) :=
                ⟨HSTP.out.mem, HSTP.out.thr, HSTP.out.le.op HK.out.2.2.1, by have := HK.out.2.2.2.1; omega, by rw [H.step_trace1 HSTP.out.err]; have := HK.out.2.2.2.2; omega⟩
              clear HSTP hdw hokk
              generalize mm.told r1 (H.op6 o) = tt at *
              obtain ⟨t0, t1, t2⟩ := tt
              dsimp only at hva HNX hlt
              generalize mm.step r1 (H.op6 o) = mm2 at *
              generalize C.err mm.cells.length r1 (H.op6 o) = er at *
              have HS := Lib.hid (hS.new 55 [.int .u64 t0, .int .u64 t1, .bool t2]); clear hS
              have p0 := (HS.out.blk 3 rfl).cell 0
              have z0 := (HS.out.blk 0 rfl).cell 0
              have z1 := (HS.out.blk 0 rfl).cell 1
              have z2 := (HS.out.blk 0 rfl).cell 2
              have pl := (HS.out.blk 3 rfl).lt
              have zl := (HS.out.blk 0 rfl).lt
              simp only [List.getElem?_cons_zero, List.getElem?_cons_succ] at p0 z0 z1 z2
              go_wp2_with fail
              refine wp_region_fr [(1, [0, 1, 2, 3]), (3, [4])] [] (by kernel_rfl) (by kernel_rfl) ?_
              simp only [theOps, nthOp, List.map_cons, List.map_nil, Array.getD_eq_getD_getElem?, List.getElem?_toArray, List.getElem?_cons_succ, List.getElem?_cons_zero, Option.getD_some]
              repeat ((first | refine wpSegs_soft ?_ | refine wpSegs_pure ?_ | refine wpSegs_here ?_); (repeat (first | go_big_quiet_step (fail) | quiet_step (fail))); refine wpQuiet_nil ?_)
              refine wpSegs_hard ?_
              go_wp2_with fail
              refine (HTL.out _ _ _ hb r1 hh t0 t1 t2 hva.1 hva.2 HK.out.2.1.inv.good HK.out.2.1.inv.rng (HS.out.drew.pull 4 rfl)).mono ?_
              rintro e w10 ⟨rfl, hS⟩
              have HS := Lib.hid hS; clear hS p0 pl z0 z1 z2 zl hva
              go_wp2_with fail
              refine wpSegs_done ?_
              have q0 := (HS.out.blk 3 rfl).cell 0
              rw [show (enP o)[0]? = some (.int .i64 o.k) from rfl] at q0
              have ql := (HS.out.blk 3 rfl).lt
              have z2 := (HS.out.blk 1 rfl).cell 2
              have zl := (HS.out.blk 1 rfl).lt
              simp only [List.getElem?_cons_zero, List.getElem?_cons_succ] at z2
              have htot : decide ((mm2.trace.length : Int) > (n0 : Int) + 2 * (m : Int) + 10) = false := by have := HNX.out.2.2.2.2; have := HM2.out; simp; omega
              have hmi : (m : Int) ≤ 30 := by omega
              have hni : (n0 : Int) ≤ 280 := by omega
              obtain ⟨o0, o1, o2, o3, o4, o5⟩ := o
              dsimp only at hcs hlt q0
              generalize whA c o1 = wa at hcs ⊢
              obtain ⟨wa1, wa2, wa3⟩ := wa
              dsimp only at hcs ⊢
              rcases hcs with ⟨rfl, hw⟩ | ⟨rfl, rfl, hw⟩ | ⟨rfl, hw⟩ | ⟨rfl, hw⟩
              · clear hw hlt
                go_wp2_with fail
                obtain ⟨_, vc, vt, hM⟩ := sep_mem HS.out 2 rfl
                refine (total_any _ mb vc vt mm2 hM).mono ?_
                rintro e w11 ⟨rfl, rfl⟩
                clear hM
                have HS2 := Lib.hid (HS.out.new 43 (enP ⟨0, o1, o2, o3, o4, o5⟩))
                have honeO := enP_one ⟨0, o1, o2, o3, o4, o5⟩
                have p0 := (HS2.out.blk 5 rfl).cell 0
                have pl := (HS2.out.blk 5 rfl).lt
                simp only [List.getElem?_cons_zero] at p0
                go_wp2_with (first | (refine wpList_load_any 43 _ rfl rfl _ 0 rfl (enP ⟨0, o1, o2, o3, o4, o5⟩) _ (HS.out.blk 3 rfl).range Try.underlying43 rfl (by kernel_rfl) ?_) | (refine wpList_store_new 43 _ (enP ⟨0, o1, o2, o3, o4, o5⟩).toArray rfl _ _ rfl rfl rfl (by kernel_rfl) (by simp [enP]) (all_oneCell_toArray honeO) ?_))
                generalize hh2 : H.tell c sq t0 t1 hh = hn2 at *
                clear hh2
                refine (HAK.out _ _ _ hb r1 hn2 HNX.out.2.1.inv.good (HS2.out.pull 1 rfl)).mono ?_
                rintro e w12 ⟨rfl, hf⟩
                rw [HAD.out r1 hn2 HNX.out.2.1.inv]
                have HS := Lib.hid (HS2.out.fr0 hf); clear hf HS2 honeO p0 pl q0 ql z2 zl
                have honeO := enP_one (H.ask c r1 r2 sq hn2).1
                go_wp2_with (refine wpList_store_sep HS.out 0 rfl (enP (H.ask c r1 r2 sq hn2).1) 43 _ _ rfl rfl rfl rfl rfl (by kernel_rfl) honeO (fun wT hT _ => ?_); have HS3 := Lib.hid hT; clear hT)
                go_roundg ((H.lms L hn2).toNat)
                case measure => have := HNX.out.2.2.2.1; have := HNX.out.2.1.lnn; omega
                case rel => exact ⟨hn2, mm2, _, rfl, rfl, ⟨HNX.out.1, HNX.out.2.1, HNX.out.2.2.1, by have := HNX.out.2.1.lnn; omega, by have := HNX.out.2.2.2; have := HNX.out.2.1.lnn; omega⟩, HS3.out.sub [0, 5, 1, 3, 6, 7] rfl (by decide)⟩
              · clear hw hlt
                go_wp2_with fail
                obtain ⟨_, vc, vt, hM⟩ := sep_mem HS.out 2 rfl
                refine (total_any _ mb vc vt mm2 hM).mono ?_
                rintro e w11 ⟨rfl, rfl⟩
                clear hM
                have HS2 := Lib.hid (HS.out.new 43 (enP ⟨1, o1, o2, o3, o4, o5⟩))
                have honeO := enP_one ⟨1, o1, o2, o3, o4, o5⟩
                have p0 := (HS2.out.blk 5 rfl).cell 0
                have pl := (HS2.out.blk 5 rfl).lt
                simp only [List.getElem?_cons_zero] at p0
                go_wp2_with (first | (refine wpList_load_any 43 _ rfl rfl _ 0 rfl (enP ⟨1, o1, o2, o3, o4, o5⟩) _ (HS.out.blk 3 rfl).range Try.underlying43 rfl (by kernel_rfl) ?_) | (refine wpList_store_new 43 _ (enP ⟨1, o1, o2, o3, o4, o5⟩).toArray rfl _ _ rfl rfl rfl (by kernel_rfl) (by simp [enP]) (all_oneCell_toArray honeO) ?_))
                generalize hh2 : H.tell c sq t0 t1 hh = hn2 at *
                clear hh2
                refine (HAK.out _ _ _ hb r1 hn2 HNX.out.2.1.inv.good (HS2.out.pull 1 rfl)).mono ?_
                rintro e w12 ⟨rfl, hf⟩
                rw [HAD.out r1 hn2 HNX.out.2.1.inv]
                have HS := Lib.hid (HS2.out.fr0 hf); clear hf HS2 honeO p0 pl q0 ql z2 zl
                have honeO := enP_one (H.ask c r1 r2 sq hn2).1
                go_wp2_with (refine wpList_store_sep HS.out 0 rfl (enP (H.ask c r1 r2 sq hn2).1) 43 _ _ rfl rfl rfl rfl rfl (by kernel_rfl) honeO (fun wT hT _ => ?_); have HS3 := Lib.hid hT; clear hT)
                go_roundg ((H.lms L hn2).toNat)
                case measure => have := HNX.out.2.2.2.1; have := HNX.out.2.1.lnn; omega
                case rel => exact ⟨hn2, mm2, _, rfl, rfl, ⟨HNX.out.1, HNX.out.2.1, HNX.out.2.2.1, by have := HNX.out.2.1.lnn; omega, by have := HNX.out.2.2.2; have := HNX.out.2.1.lnn; omega⟩, HS3.out.sub [0, 5, 1, 3, 6, 7] rfl (by decide)⟩
              · obtain rfl := hlt rfl
                clear hw hlt
                go_wp2_with fail
                obtain ⟨_, vc, vt, hM⟩ := sep_mem HS.out 2 rfl
                refine (total_any _ mb vc vt mm2 hM).mono ?_
                rintro e w11 ⟨rfl, rfl⟩
                clear hM
                have HS2 := Lib.hid (HS.out.new 43 (enP ⟨2, o1, o2, o3, o4, o5⟩))
                have honeO := enP_one ⟨2, o1, o2, o3, o4, o5⟩
                have p0 := (HS2.out.blk 5 rfl).cell 0
                have pl := (HS2.out.blk 5 rfl).lt
                simp only [List.getElem?_cons_zero] at p0
                go_wp2_with (first | (refine wpList_load_any 43 _ rfl rfl _ 0 rfl (enP ⟨2, o1, o2, o3, o4, o5⟩) _ (HS.out.blk 3 rfl).range Try.underlying43 rfl (by kernel_rfl) ?_) | (refine wpList_store_new 43 _ (enP ⟨2, o1, o2, o3, o4, o5⟩).toArray rfl _ _ rfl rfl rfl (by kernel_rfl) (by simp [enP]) (all_oneCell_toArray honeO) ?_))
                generalize hh2 : H.tell c sq t0 t1 hh = hn2 at *
                clear hh2
                refine (HAK.out _ _ _ hb r1 hn2 HNX.out.2.1.inv.good (HS2.out.pull 1 rfl)).mono ?_
                rintro e w12 ⟨rfl, hf⟩
                rw [HAD.out r1 hn2 HNX.out.2.1.inv]
                have HS := Lib.hid (HS2.out.fr0 hf); clear hf HS2 honeO p0 pl q0 ql z2 zl
                have honeO := enP_one (H.ask c r1 r2 sq hn2).1
                go_wp2_with (refine wpList_store_sep HS.out 0 rfl (enP (H.ask c r1 r2 sq hn2).1) 43 _ _ rfl rfl rfl rfl rfl (by kernel_rfl) honeO (fun wT hT _ => ?_); have HS3 := Lib.hid hT; clear hT)
                go_roundg ((H.lms L hn2).toNat)
                case measure => have := HNX.out.2.2.2.1; have := HNX.out.2.1.lnn; omega
                case rel => exact ⟨hn2, mm2, _, rfl, rfl, ⟨HNX.out.1, HNX.out.2.1, HNX.out.2.2.1, by have := HNX.out.2.1.lnn; omega, by have := HNX.out.2.2.2; have := HNX.out.2.1.lnn; omega⟩, HS3.out.sub [0, 5, 1, 3, 6, 7] rfl (by decide)⟩
              · obtain rfl := hlt rfl
                clear hw hlt
                go_wp2_with fail
                obtain ⟨_, vc, vt, hM⟩ := sep_mem HS.out 2 rfl
                refine (total_any _ mb vc vt mm2 hM).mono ?_
                rintro e w11 ⟨rfl, rfl⟩
                clear hM
                have HS2 := Lib.hid (HS.out.new 43 (enP ⟨2, o1, o2, o3, o4, o5⟩))
                have honeO := enP_one ⟨2, o1, o2, o3, o4, o5⟩
                have p0 := (HS2.out.blk 5 rfl).cell 0
                have pl := (HS2.out.blk 5 rfl).lt
                simp only [List.getElem?_cons_zero] at p0
                go_wp2_with (first | (refine wpList_load_any 43 _ rfl rfl _ 0 rfl (enP ⟨2, o1, o2, o3, o4, o5⟩) _ (HS.out.blk 3 rfl).range Try.underlying43 rfl (by kernel_rfl) ?_) | (refine wpList_store_new 43 _ (enP ⟨2, o1, o2, o3, o4, o5⟩).toArray rfl _ _ rfl rfl rfl (by kernel_rfl) (by simp [enP]) (all_oneCell_toArray honeO) ?_))
                generalize hh2 : H.tell c sq t0 t1 hh = hn2 at *
                clear hh2
                refine (HAK.out _ _ _ hb r1 hn2 HNX.out.2.1.inv.good (HS2.out.pull 1 rfl)).mono ?_
                rintro e w12 ⟨rfl, hf⟩
                rw [HAD.out r1 hn2 HNX.out.2.1.inv]
                have HS := Lib.hid (HS2.out.fr0 hf); clear hf HS2 honeO p0 pl q0 ql z2 zl
                have honeO := enP_one (H.ask c r1 r2 sq hn2).1
                go_wp2_with (refine wpList_store_sep HS.out 0 rfl (enP (H.ask c r1 r2 sq hn2).1) 43 _ _ rfl rfl rfl rfl rfl (by kernel_rfl) honeO (fun wT hT _ => ?_); have HS3 := Lib.hid hT; clear hT)
                go_roundg ((H.lms L hn2).toNat)
                case measure => have := HNX.out.2.2.2.1; have := HNX.out.2.1.lnn; omega
                case rel => exact ⟨hn2, mm2, _, rfl, rfl, ⟨HNX.out.1, HNX.out.2.1, HNX.out.2.2.1, by have := HNX.out.2.1.lnn; omega, by have := HNX.out.2.2.2; have := HNX.out.2.1.lnn; omega⟩, HS3.out.sub [0, 5, 1, 3, 6, 7] rfl (by decide)⟩
        · rw [decide_eq_false h8]
          have HH8 := Lib.hid h8; clear h8
          have hgp : 1 ≤ gk := by have := HK.out.2.2.1.pos HH8.out; have := HK.out.2.2.2.1; omega
          generalize hoo : (H.ask c r2 r2 sq ho).1 = o at *
          have HOO := Lib.hid hoo; clear hoo
          have hstp := HST.out r2 ho mm HK.out.1 HK.out.2.2.1 hr20 HH8.out
          have hdw := H.Stp.down HJ.out HK.out.1 HK.out.2.2.1 HH8.out hstp
          rw [HOO.out] at hstp hdw
          have HSTP := Lib.hid hstp; clear hstp
          go_wp2_with (refine wpList_load_any 43 _ rfl rfl _ 0 rfl (enP o) _ (HS.out.blk 0 rfl).range Try.underlying43 rfl (by kernel_rfl) ?_)
          refine (HDO.out _ _ _ mb mm (HS.out.pull 4 rfl) (by have := HK.out.2.2.2.2; omega) r2 o).mono ?_
          rintro e w7 ⟨rfl, hS⟩
          have hva := HSTP.out.val
          have HNX : Hid (H.MOk c r2 sq L B (mm.step r2 (H.op6 o)) ∧ H.TOk c r2 sq L B (mm.step r2 (H.op6 o)) hh ∧ H.TOk c r2 sq L B (mm.step r2 (H.op6 o)) (H.tell c sq (mm.told r2 (H.op6 o)).v (mm.told r2 (H.op6 o)).s ho) ∧ H.ms L (H.tell c sq (mm.told r2 (H.op6 o)).v (mm.told r2 (H.op6 o)).s ho) < (gk : Int) ∧ (mm.step r2 (H.op6 o)).trace.length + gk ≤ 281) :=
            ⟨HSTP.out.mem, HK.out.2.1.le HJ.out HSTP.out.le, HSTP.out.thr, by have := HK.out.2.2.2.1; omega, by rw [H.step_trace1 HSTP.out.err]; have := HK.out.2.2.2.2; omega⟩
          clear HSTP hdw
          generalize mm.told r2 (H.op6 o) = tt at *
          obtain ⟨t0, t1, t2⟩ := tt
          dsimp only at hva HNX
          generalize mm.step r2 (H.op6 o) = mm2 at *
          generalize C.err mm.cells.length r2 (H.op6 o) = er at *
          have HS := Lib.hid (hS.new 55 [.int .u64 t0, .int .u64 t1, .bool t2]); clear hS
          go_wp2_with (refine wpList_load_any 55 _ rfl rfl _ 0 rfl [.int .u64 t0, .int .u64 t1, .bool t2] _ (HS.out.blk 0 rfl).range Try.underlying55 rfl (by kernel_rfl) ?_)
          refine (HTL.out _ _ _ ob r2 ho t0 t1 t2 hva.1 hva.2 HK.out.2.2.1.inv.good HK.out.2.2.1.inv.rng (HS.out.pull 3 rfl)).mono ?_
          rintro e w8 ⟨rfl, hS⟩
          have HS := Lib.hid hS; clear hS hva
          have HS2 := Lib.hid (HS.out.new 43 (enP o))
          have honeO := enP_one o
          go_wp2_with (first | (refine wpList_load_any 43 _ rfl rfl _ 0 rfl (enP o) _ (HS.out.blk 3 rfl).range Try.underlying43 rfl (by kernel_rfl) ?_) | (refine wpList_store_new 43 _ (enP o).toArray rfl _ _ rfl rfl rfl (by kernel_rfl) (by simp [enP]) (all_oneCell_toArray honeO) ?_))
          generalize hh2 : H.tell c sq t0 t1 ho = ho2 at *
          have HHO := Lib.hid hh2; clear hh2
          refine (HAK.out _ _ _ ob r2 ho2 HNX.out.2.2.1.inv.good (HS2.out.pull 1 rfl)).mono ?_
          rintro e w9 ⟨rfl, hf⟩
          rw [HAD.out r2 ho2 HNX.out.2.2.1.inv]
          have HS := Lib.hid (HS2.out.fr0 hf); clear hf HS2 honeO
          have honeO := enP_one (H.ask c r2 r2 sq ho2).1
          go_wp2_with (refine wpList_store_sep HS.out 0 rfl (enP (H.ask c r2 r2 sq ho2).1) 43 _ _ rfl rfl rfl rfl rfl (by kernel_rfl) honeO (fun wT hT _ => ?_); have HS3 := Lib.hid hT; clear hT)
          go_roundg ((H.ms L ho2).toNat)
          case measure => have := HNX.out.2.2.2.1; have := HNX.out.2.2.1.nn; omega
          case rel => exact ⟨hh, ho2, mm2, _, rfl, rfl, ⟨HNX.out.1, HNX.out.2.1, HNX.out.2.2.1, by have := HNX.out.2.2.1.nn; omega, by have := HNX.out.2.2.2; have := HNX.out.2.2.1.nn; omega⟩, HS3.out.sub [0, 1, 5, 6, 3, 7, 8] rfl (by decide)⟩
theorem hlate_any (w : World) (c : Cfg) (hf0 : 0 ≤ c.fi) (owner ahead : Int) (a : Option Addr) (m lc : Nat) (L : List (Int × Int)) (hLm : m = L.length) (hL : ArgE enE 2 w (.slice a m lc) L) (hG : ∀ e ∈ L, goodE e) (hnil : NilA a m lc) (hmx : m ≤ maxLen) :
    Calls Try.prog 12 #[cfgV c, .int .i64 owner, .slice a m lc, .int .i64 ahead] w fun e w' => e = .returned (.bool true) ∧ Fr [] w w' := by
  by_cases h0 : right c = true
  · exact hlate_good w c (by unfold right at h0; simpa using h0) hf0 owner ahead a m lc L hLm hL hG hnil hmx h0
  · exact hlate_s0 w c owner ahead a m lc (by simpa using h0)
theorem hlate_row (a b d f g l owner ahead : Int) (v : Value) (hg : (Lit.int .u64 g).wf = true) (L : List (Int × Int)) (w : World) (hL : ArgH w v L) (hl : L.length ≤ maxLen) :
    Calls Try.prog 12 #[.agg #[.int .i64 a, .int .i64 b, .int .i64 d, .int .i64 f, .int .u64 g, .int .u64 l], .int .i64 owner, v, .int .i64 ahead] w fun e w' => e = .returned (.bool true) ∧ Fr [] w w' := by
  obtain ⟨a1, c1, rfl, _⟩ := id hL.1.1
  exact hlate_any w ⟨a, b, d, f, g, l⟩ (wf_u64 hg).1 owner ahead a1 _ c1 L rfl hL.1.1 hL.1.2 (hL.2 _ _ _ rfl) hl
end Go.Proofs.Ytccioehckfdjdaa
