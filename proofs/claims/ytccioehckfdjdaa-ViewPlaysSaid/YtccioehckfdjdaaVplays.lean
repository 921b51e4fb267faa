/- The law ViewPlays, walked. -/
import Derived.Test.YtccioehckfdjdaaVplays0
import Derived.Test.YtccioehckfdjdaaVrq
import Derived.Test.YtccioehckfdjdaaTrio
import Derived.Test.YtccioehckfdjdaaArgO
set_option linter.unusedSimpArgs false
set_option linter.unusedVariables false
namespace Go.Proofs.Ytccioehckfdjdaa
open Go.RowKit Go.Tum Go.Tum.Y Go.Tum.Vw
set_option maxRecDepth 100000 in
set_option maxHeartbeats 4000000 in
theorem vplays_s0 (w : World) (c : Cfg) (who seq : Int) (a oa : Option Addr) (m lc n oc : Nat) (hrc : right c = false) : Calls Try.prog 3 #[cfgV c, .int .i64 who, .int .u64 seq, .slice a m lc, .slice oa n oc] w fun e w' => e = .returned (.bool true) ∧ Fr [] w w' := by
  have HS := Lib.hid ((Sep.nil (Fr.refl [] w)).new 24 (cfgL c))
  have HR := Lib.hid (fun w => rright09_any w c)
  have hsz6 : (cfgL c).length = 6 := rfl
  rw [show cfgV c = .agg (cfgL c).toArray from rfl]
  generalize cfgL c = cl at *
  go_enter Try.func3, Try.ntmps3
  go_wp2_with fail
  refine (alive09_any _).mono ?_
  rintro e w1 ⟨rfl, hf⟩
  have HS := Lib.hid (HS.out.fr0 hf)
  clear hf
  go_wp2_with (first | (refine wpList_load_any 24 _ rfl rfl _ 0 rfl cl _ (HS.out.blk 0 rfl).range Try.underlying24 rfl (by rw [hsz6]; kernel_rfl) ?_))
  refine (HR.out _).mono ?_
  rintro e w1 ⟨rfl, hf⟩
  have HS := Lib.hid (HS.out.fr0 hf)
  clear hf
  rw [hrc]
  go_wp2_with fail
  go_ret
  exact ⟨rfl, HS.out.fr⟩
set_option maxRecDepth 100000 in
set_option maxHeartbeats 4000000 in
theorem vplays_s1 (w : World) (c : Cfg) (who seq : Int) (a oa : Option Addr) (m lc n oc : Nat) (hrc : right c = true) (d1 : decide ((m : Int) > 20) = true) : Calls Try.prog 3 #[cfgV c, .int .i64 who, .int .u64 seq, .slice a m lc, .slice oa n oc] w fun e w' => e = .returned (.bool true) ∧ Fr [] w w' := by
  have HS := Lib.hid ((Sep.nil (Fr.refl [] w)).new 24 (cfgL c))
  have HR := Lib.hid (fun w => rright09_any w c)
  have hsz6 : (cfgL c).length = 6 := rfl
  rw [show cfgV c = .agg (cfgL c).toArray from rfl]
  generalize cfgL c = cl at *
  go_enter Try.func3, Try.ntmps3
  go_wp2_with fail
  refine (alive09_any _).mono ?_
  rintro e w1 ⟨rfl, hf⟩
  have HS := Lib.hid (HS.out.fr0 hf)
  clear hf
  go_wp2_with (first | (refine wpList_load_any 24 _ rfl rfl _ 0 rfl cl _ (HS.out.blk 0 rfl).range Try.underlying24 rfl (by rw [hsz6]; kernel_rfl) ?_))
  refine (HR.out _).mono ?_
  rintro e w1 ⟨rfl, hf⟩
  have HS := Lib.hid (HS.out.fr0 hf)
  clear hf
  rw [hrc]
  go_wp2_with fail
  go_ret
  exact ⟨rfl, HS.out.fr⟩
set_option maxRecDepth 100000 in
set_option maxHeartbeats 4000000 in
theorem vplays_s2 (w : World) (c : Cfg) (who seq : Int) (a oa : Option Addr) (m lc n oc : Nat) (hrc : right c = true) (d1 : decide ((m : Int) > 20) = false) (d2 : decide ((n : Int) > 60) = true) : Calls Try.prog 3 #[cfgV c, .int .i64 who, .int .u64 seq, .slice a m lc, .slice oa n oc] w fun e w' => e = .returned (.bool true) ∧ Fr [] w w' := by
  have HS := Lib.hid ((Sep.nil (Fr.refl [] w)).new 24 (cfgL c))
  have HR := Lib.hid (fun w => rright09_any w c)
  have hsz6 : (cfgL c).length = 6 := rfl
  rw [show cfgV c = .agg (cfgL c).toArray from rfl]
  generalize cfgL c = cl at *
  go_enter Try.func3, Try.ntmps3
  go_wp2_with fail
  refine (alive09_any _).mono ?_
  rintro e w1 ⟨rfl, hf⟩
  have HS := Lib.hid (HS.out.fr0 hf)
  clear hf
  go_wp2_with (first | (refine wpList_load_any 24 _ rfl rfl _ 0 rfl cl _ (HS.out.blk 0 rfl).range Try.underlying24 rfl (by rw [hsz6]; kernel_rfl) ?_))
  refine (HR.out _).mono ?_
  rintro e w1 ⟨rfl, hf⟩
  have HS := Lib.hid (HS.out.fr0 hf)
  clear hf
  rw [hrc]
  go_wp2_with fail
  go_ret
  exact ⟨rfl, HS.out.fr⟩
set_option maxRecDepth 100000 in
set_option maxHeartbeats 40000000 in
theorem vplays_good (w : World) (c : Cfg) (h : Ok c) (who seq : Int) (a oa : Option Addr) (m lc n oc : Nat) (L : List Rq) (O : List O3) (hLm : L.length = m) (hL : ArgE enR 3 w (.slice a m lc) L) (hm : m ≤ 20) (hO : ArgE enO 3 w (.slice oa n oc) O) (hOn : O.length = n) (hn : n ≤ 60) (hrc : right c = true) :
    Calls Try.prog 3 #[cfgV c, .int .i64 who, .int .u64 seq, .slice a m lc, .slice oa n oc] w fun e w' => e = .returned (.bool true) ∧ Fr [] w w' := by
  subst hLm
  have d1 : decide ((L.length : Int) > 20) = false := by simp; omega
  have d2 : decide ((n : Int) > 60) = false := by simp; omega
  have ht1 := h.t1
  have ht8 := h.t8
  have hnc : n ≤ oc := by obtain ⟨_, cap', e, hh, _⟩ := hO; simp only [Value.slice.injEq] at e; omega
  obtain ⟨b8, hb8, hbe⟩ := and_i64_low who 8 (by decide)
  obtain ⟨q, hq⟩ : ∃ q : Int, q = (b8 : Int) := ⟨_, rfl⟩
  have hbe2 : bits .and .i64 who 255 = q := by rw [hq]; exact hbe
  have hq0 : 0 ≤ q ∧ q ≤ 255 := by rw [hq]; omega
  obtain ⟨r, hr⟩ : ∃ r, Int.tmod q c.t = r := ⟨_, rfl⟩
  have HRT : Hid (∀ w, Calls Try.prog 17 #[.agg (cfgL c).toArray, .int .i64 who, .int .u64 seq] w fun e w' => ∃ b, e = .returned (.tuple #[mapV c, .pointer (some ⟨b, 0, none⟩), .agg (xL c r seq (-1) false).toArray]) ∧ Sep w w' [blkT b 152 (vwL (mapCells c) r seq vNew)]) := fun w => right_law w c h who seq q r hbe2 hr ⟨ht1, ht8⟩ hq0
  clear hbe hb8 hbe2 hr hq
  have hsz : (mapCells c).length = 24 := rfl
  have hone := oneMapV c
  have hoX := fun x => xL_one c r seq (X.held x) x.stale
  have hlX : ∀ x : X, (xL c r seq x.held x.stale).length = 10 := fun _ => rfl
  have HXF := Lib.hid (fun x : X => xf c r seq x.held x.stale)
  have HBG : Hid (∀ (w0 w : World) (R : List Thing) (b : Nat) (v : V) (kind a block : Int), Sep w0 w (blkT b 152 (vwL (mapCells c) r seq v) :: R) → Calls Try.prog 18 #[.pointer (some ⟨b, 0, none⟩), .agg (cfgL c).toArray, .agg #[.int .i64 kind, .int .i64 a, .int .i64 block]] w fun e w' => e = .returned (.tuple #[]) ∧ Sep w0 w' (blkT b 152 (vwL (mapCells c) r seq (beg c kind a block v)) :: R)) := fun w0 w R b v kind a block hS => begin_law b c h r seq v kind a block hS
  have HAK := Lib.hid (fun w b v hB => vask_any w c h b r seq v hB)
  have HDO := Lib.hid (fun w (sa : Option Addr) (k sc : Nat) (x : X) (K A B : Int) (l : List O3) (hk : k ≤ 60) (hl : l.length = k) (hO : ArgE enO 3 w (.slice sa k sc) l) (rd : Rd) (hrd : rdoes c r seq l x t0 K A B = rd) => does_any w c h r seq sa k sc x t0 K A B (by omega) (by simp [t0]) l hl hO rd hrd)
  unfold mapV at *
  generalize mapCells c = cs at *
  have HS := Lib.hid ((Sep.nil (Fr.refl [] w)).new 24 (cfgL c))
  have HR := Lib.hid (fun w => rright09_any w c)
  have hsz6 : (cfgL c).length = 6 := rfl
  rw [show cfgV c = .agg (cfgL c).toArray from rfl]
  generalize cfgL c = cl at *
  go_enter Try.func3, Try.ntmps3
  go_wp2_with fail
  refine (alive09_any _).mono ?_
  rintro e w1 ⟨rfl, hf⟩
  have HS := Lib.hid (HS.out.fr0 hf)
  clear hf
  go_wp2_with (first | (refine wpList_load_any 24 _ rfl rfl _ 0 rfl cl _ (HS.out.blk 0 rfl).range Try.underlying24 rfl (by rw [hsz6]; kernel_rfl) ?_))
  refine (HR.out _).mono ?_
  rintro e w1 ⟨rfl, hf⟩
  have HS := Lib.hid (HS.out.fr0 hf)
  clear hf
  rw [hrc]
  go_wp2_with (first | (refine wpList_load_any 24 _ rfl rfl _ 0 rfl cl _ (HS.out.blk 0 rfl).range Try.underlying24 rfl (by rw [hsz6]; kernel_rfl) ?_))
  refine (HRT.out _).mono ?_
  rintro e w2 ⟨b, rfl, hN⟩
  have hS := HS.out.append hN
  simp only [List.cons_append, List.nil_append] at hS
  have hS := (hS.new 31 zeroMap).new 34 zView
  unfold zView at hS
  simp only [World.size_alloc] at hS
  have HS := Lib.hid hS; clear hS hN HRT HR
  have hlz : cs.length = zeroMap.length := hsz
  have hlv : (xL c r seq (-1) false).length = zView.length := rfl
  have hov := hoX ⟨-1, false⟩
  go_wp2_with (first | (refine wpList_store_sep HS.out 1 rfl cs 31 _ _ rfl rfl rfl rfl hlz (by rw [hsz]; kernel_rfl) hone (fun wA hA _ => ?_); have HA := Lib.hid hA; clear hA) | (refine wpList_store_sep HA.out 0 rfl (xL c r seq (-1) false) 34 _ _ rfl rfl rfl rfl hlv (by rw [hlv]; kernel_rfl) hov (fun wB hB _ => ?_); have HB := Lib.hid hB; clear hB))
  have hS := HB.out
  simp only [List.set_cons_zero, List.set_cons_succ] at hS
  have hS : Sep w wB [blkT (w2.heap.size + 1) 34 (xL c r seq (-1) false), blkT b 152 (vwL cs r seq vNew), blkT w.heap.size 24 cl] := hS.sub [0, 2, 3] rfl (by decide)
  have HS := Lib.hid hS; clear hS HA HB hlz hlv hov
  generalize w2.heap.size + 1 = XB at HS ⊢
  have hni : (L.length : Int) ≤ 20 := by omega
  have hnn : (n : Int) ≤ 60 := by omega
  have hnci : (n : Int) ≤ (oc : Int) := by omega
  go_loopg [14, 15, 51] L.length (fun gk vf vk vi wr => ∃ (i f : Nat) (x : X) (v : V), gk + i = L.length ∧ f ≤ n ∧ vf = .int .i64 (f : Int) ∧ vk = .int .i64 (f : Int) ∧ vi = .int .i64 (i : Int) ∧ Vw.Rest x v ∧ Sep w wr [blkT XB 34 (xL c r seq x.held x.stale), blkT b 152 (vwL cs r seq v), blkT w.heap.size 24 cl])
  case atStart => exact ⟨0, 0, ⟨-1, false⟩, vNew, by omega, by omega, rfl, rfl, rfl, rest_new, HS.out⟩
  case round =>
    clear HS
    obtain ⟨i, f, x, v, hg, hfn, rfl, rfl, rfl, hrs, hS⟩ := hrel
    by_cases hi : i < L.length
    · have hii : (i : Int) < (L.length : Int) := by omega
      obtain ⟨xa, rfl, hx, e0, e1⟩ := (hL.fr hS.fr).at hi
      generalize L[i] = Q at *
      obtain ⟨K, A, B⟩ := Q
      have y0 := e0 _ rfl
      have y1 := e1 0 _ rfl
      have y2 := e1 1 _ rfl
      clear e0 e1
      have HSB := Lib.hid (hS.new 38 [.int .i64 K, .int .i64 A, .int .i64 B])
      have HCL := Lib.hid (HSB.out.blk 3 rfl).range
      clear hS
      go_wp2_with (refine wpList_load_any 24 _ rfl rfl _ 0 rfl cl _ HCL.out Try.underlying24 rfl (by rw [hsz6]; kernel_rfl) ?_)
      refine (HSB.out.call 2 rfl (fun R hR => HBG.out _ _ R b v K A B hR)).mono ?_
      rintro e w4 ⟨rfl, hS⟩
      simp only [List.set_cons_zero, List.set_cons_succ] at hS
      have HAN : Hid (∀ l, On seq (beg c K A B v) l → Ans c r (run seq (beg c K A B v) l) (rdoes c r seq l x t0 K A B)) := fun l hl => ans_beg h hrs K A B hl
      have hrg := rng_beg c K A B hrs.st
      generalize beg c K A B v = u0 at hS HAN hrg
      have HS := Lib.hid hS; clear hS y0 y1 y2 HSB HCL hrs
      have HRG := Lib.hid hrg; clear hrg
      generalize wr.heap.size = QB at HS ⊢
      go_wp2_with fail
      go_loopg [15] (n + 1 - f) (fun g2 v15 wr2 => ∃ (k : Nat), g2 = n + 1 - k ∧ f ≤ k ∧ k ≤ n ∧ v15 = .int .i64 (k : Int) ∧ On seq u0 ((O.take k).drop f) ∧ Sep w wr2 [blkT QB 38 [.int .i64 K, .int .i64 A, .int .i64 B], blkT XB 34 (xL c r seq x.held x.stale), blkT b 152 (vwL cs r seq (run seq u0 ((O.take k).drop f))), blkT w.heap.size 24 cl])
      case atStart =>
        refine ⟨f, rfl, by omega, by omega, rfl, ?_, ?_⟩
        · rw [List.drop_eq_nil_of_le (by rw [List.length_take]; omega)]; trivial
        · rw [List.drop_eq_nil_of_le (by rw [List.length_take]; omega)]; exact HS.out
      case round =>
        clear HS
        obtain ⟨k, hg2, hfk, hk2, rfl, hon, hS⟩ := hrel
        have hlen : ((O.take k).drop f).length = k - f := by rw [List.length_drop, List.length_take]; omega
        have HOC : Hid (∀ w', Fr [] w w' → ArgE enO 3 w' (.slice (if oc = f then oa else Option.map (fun x => x.add (f * 3)) oa) (k - f) (oc - f)) ((O.take k).drop f)) := fun w' hf => (hO.fr hf).cut f k hfk (by omega)
        have hok1 := HAN.out _ hon
        have hrng := rng_run ((O.take k).drop f) u0 (seq := seq) HRG.out
        have HSN : Hid (∀ o, (hq : k < O.length) → O[k] = o → (run seq u0 ((O.take k).drop f)).step ≠ 0 → On seq u0 ((O.take (k + 1)).drop f) ∧ run seq u0 ((O.take (k + 1)).drop f) = tell seq o.v o.s (run seq u0 ((O.take k).drop f))) := fun o hq ho hs => by
          have e : (O.take (k + 1)).drop f = (O.take k).drop f ++ [o] := by
            rw [← ho, List.take_succ_eq_append_getElem hq, List.drop_append_of_le_length (by rw [List.length_take]; omega)]
          rw [e]
          exact ⟨On.snoc hon hs, run_snoc _ _ _ _⟩
        have HRO : Hid ((Vw.ask c r (run seq u0 ((O.take k).drop f))).2 = false → Vw.Rest (rdoes c r seq ((O.take k).drop f) x t0 K A B).x (run seq u0 ((O.take k).drop f))) := fun ho => rest_over hok1 hrng ho
        have HAS : Hid ((Vw.ask c r (run seq u0 ((O.take k).drop f))).2 = true → (run seq u0 ((O.take k).drop f)).step ≠ 0) := fun ho => ask_stop ho
        have HDD := Lib.hid (fun w' sa sc hA => HDO.out w' sa (k - f) sc x K A B ((O.take k).drop f) (by omega) hlen hA _ rfl)
        generalize rdoes c r seq ((O.take k).drop f) x t0 K A B = rd at hok1 HRO HDD
        obtain ⟨an, aa, as_, ao⟩ := hok1
        have HO3 := Lib.hid (fun w' hf sa sc (e : Value.slice (if oc = f then oa else Option.map (fun x => x.add (f * 3)) oa) (k - f) (oc - f) = .slice sa (k - f) sc) => HDD.out w' sa sc (by rw [← e]; exact HOC.out w' hf))
        clear HDD HOC hon hrng hlen
        generalize run seq u0 ((O.take k).drop f) = u at *
        have HAKU := Lib.hid (fun w' hB => HAK.out w' b u hB)
        obtain ⟨⟨rxh, rxs⟩, ⟨rj, ra, rn⟩, rv, rs⟩ := rd
        dsimp only at an aa as_ ao HRO HO3
        subst an; subst aa; subst as_
        generalize (Vw.ask c r u).2 = okb at *
        generalize (Vw.ask c r u).1 = o at *
        have HS := Lib.hid hS; clear hS
        have HAO := Lib.hid ao; clear ao
        go_wp2_with fail
        refine (HAKU.out _ (HS.out.blk 2 rfl)).mono ?_
        rintro e w5 ⟨rfl, hf⟩
        have hS := (HS.out.fr0 hf).new 43 (enP o)
        have HS := Lib.hid hS; clear hS hf HAKU
        have honeO := enP_one o
        have hki : (k : Int) ≤ (n : Int) := by omega
        have hfi : (f : Int) ≤ (k : Int) := by omega
        have hf0 : (0 : Int) ≤ (f : Int) := by omega
        have hkoc : (k : Int) ≤ (oc : Int) := by omega
        go_wp2_with (refine wpList_store_new 43 _ (enP o).toArray rfl _ _ rfl rfl rfl (by kernel_rfl) (by simp [enP]) (all_oneCell_toArray honeO) ?_)
        obtain ⟨sa, hsa⟩ : ∃ sa, (if oc = f then oa else Option.map (fun x => x.add (f * 3)) oa) = sa := ⟨_, rfl⟩
        have HSL : ∀ wx, (Instr.slice 26 (.slice oa n oc) (some (.int .i64 (f : Int))) (some (.int .i64 (k : Int))) none).run Try.prog wx = .ok (.slice sa (k - f) (oc - f)) wx := fun wx => by
          rw [run_slice_lh (P := Try.prog) (w := wx) 26 oa n oc Try.underlying26 .i64 .i64 f k (by omega) (by omega) (by omega)]
          simp [sliced, go_sem, hsa]
        have HO4 := Lib.hid (fun w' hf => HO3.out w' hf sa (oc - f) (by rw [hsa]))
        clear HO3 hsa
        have hmx := (HS.out.blk 2 rfl).drew
        have hmq := (HS.out.blk 1 rfl).drew
        have hlx := hlX x
        have HS := Lib.hid HS.out.drew
        refine step_start ([7, 13, 14], [15, 16]) [] (by kernel_rfl) ?_
        refine step_reads (N := 12) [0, 1, 2, 3, 4, 5, 6] (by kernel_rfl) ⟨⟨_, Fr.refl _ _⟩, rfl⟩ ?_
        simp only [theOps, nthOp, List.map_cons, List.map_nil, Array.getD_eq_getD_getElem?, List.getElem?_toArray, List.getElem?_cons_succ, List.getElem?_cons_zero, Option.getD_some]
        refine wpQuiet_load_mid 34 _ XB 0 (xL c r seq x.held x.stale) _ rfl rfl rfl (rangeAt_after hmx (by simp)) Try.underlying34 rfl (by rw [hlx]; kernel_rfl) ?_
        simp only [Act.put, List.setIfInBounds_toArray, List.set_cons_zero, List.set_cons_succ]
        iterate 5 (first | go_big_quiet_step (fail) | quiet_step (fail))
        refine wpQuiet_load_mid 38 _ QB 0 [.int .i64 K, .int .i64 A, .int .i64 B] _ rfl rfl rfl (rangeAt_after hmq (by simp)) Try.underlying38 rfl (by kernel_rfl) ?_
        simp only [Act.put, List.setIfInBounds_toArray, List.set_cons_zero, List.set_cons_succ]
        refine wpQuiet_nil ?_
        have HF := Lib.hid (Fr.refl [] (w5.alloc (.cells (enP o).toArray 43)).drew)
        generalize (w5.alloc (.cells (enP o).toArray 43)).drew = wd at HS HF ⊢
        generalize w5.heap.size = OB at HS ⊢
        clear hmx hmq hlx HSL
        refine step_three (N := 11) 7 13 14 (by kernel_rfl) rfl rfl rfl ?_ ?_ ?_
        · go_wp2_with fail
          refine (HO4.out _ HS.out.fr).mono ?_
          rintro e w6 ⟨rfl, hf⟩
          have HF := Lib.hid (HF.out.trans hf)
          have HS := Lib.hid (HS.out.fr0 hf); clear hf
          go_wp2_with fail
          refine ⟨⟨⟨_, (by exact HF.out)⟩, rfl⟩, ?_⟩
          refine step_pures (N := 6) [8, 9, 10, 11, 12] (by kernel_rfl) ?_
          simp only [theOps, nthOp, List.map_cons, List.map_nil, Array.getD_eq_getD_getElem?, List.getElem?_toArray, List.getElem?_cons_succ, List.getElem?_cons_zero, Option.getD_some]
          repeat (first | go_big_quiet_step (fail) | quiet_step (fail))
          refine wpQuiet_nil ?_
          refine step_two (N := 5) 13 14 (by kernel_rfl) rfl rfl ?_ ?_
          · go_wp2_with fail
            have hf := Fr.alloc HF.out (.cells [.int .i64 0, .int .i64 0, .int .i64 0, .int .i64 0, .int .u64 0, .int .u64 0, .int .i64 0, .int .u64 0, .int .i64 0, .bool false].toArray 34)
            have hS := HS.out.new 34 [.int .i64 0, .int .i64 0, .int .i64 0, .int .i64 0, .int .u64 0, .int .u64 0, .int .i64 0, .int .u64 0, .int .i64 0, .bool false]
            have HF := Lib.hid hf; have HS := Lib.hid hS; clear hf hS
            refine ⟨⟨⟨_, (by exact HF.out)⟩, rfl⟩, ?_⟩
            generalize World.alloc _ _ = w7 at HF HS ⊢
            generalize w6.heap.size = VB at HS ⊢
            refine step_keep (N := 4) 14 (by kernel_rfl) rfl ?_
            go_wp2_with fail
            have hf := Fr.alloc HF.out (.cells [Value.slice none 0 0, .int .i64 0, .int .i64 0, .int .i64 0, .int .u64 0, .int .u64 0, .int .u64 0, .int .u64 0, .bool false].toArray 47)
            have hS := HS.out.new 47 [Value.slice none 0 0, .int .i64 0, .int .i64 0, .int .i64 0, .int .u64 0, .int .u64 0, .int .u64 0, .int .u64 0, .bool false]
            have HF := Lib.hid hf; have HS := Lib.hid hS; clear hf hS
            refine ⟨⟨⟨_, (by exact HF.out)⟩, rfl⟩, ?_⟩
            generalize World.alloc _ _ = w8 at HF HS ⊢
            generalize w7.heap.size = TB at HS ⊢
            clear HF HO4
            refine step_hard (N := 3) 15 (by kernel_rfl) rfl ?_
            refine wpList_store_sep HS.out 1 rfl (xL c r seq rxh rxs) 34 _ _ rfl rfl rfl rfl rfl (by kernel_rfl) (hoX ⟨rxh, rxs⟩) (fun wT hT _ => ?_)
            have HS := Lib.hid hT; clear hT
            go_wp2_with fail
            refine step_hard (N := 2) 16 (by kernel_rfl) rfl ?_
            refine wpList_store_sep HS.out 0 rfl (tapeL (.slice sa (k - f) (oc - f)) ⟨rj, o, okb⟩) 47 _ _ rfl rfl rfl rfl rfl (by kernel_rfl) (tapeL_one _ _ _ _) (fun wU hU _ => ?_)
            have HS := Lib.hid hU; clear hU
            simp only [List.set_cons_zero, List.set_cons_succ] at HS
            go_wp2_with fail
            refine step_pures (N := 0) [17, 18] (by kernel_rfl) ?_
            simp only [theOps, nthOp, List.map_cons, List.map_nil, Array.getD_eq_getD_getElem?, List.getElem?_toArray, List.getElem?_cons_succ, List.getElem?_cons_zero, Option.getD_some]
            repeat (first | go_big_quiet_step (fail) | quiet_step (fail))
            refine wpQuiet_nil ?_
            refine step_done rfl ?_
            have b8 := (HS.out.blk 0 rfl).cell 8
            have b8l := (HS.out.blk 0 rfl).lt
            simp only [tapeL, List.getElem?_cons_zero, List.getElem?_cons_succ] at b8
            have HNE := fun w => neq_op_self w o
            cases okb
            · go_wp2_with (first | (refine wpList_load_any 43 _ rfl rfl _ 0 rfl (enP o) _ (HS.out.blk 2 rfl).range Try.underlying43 rfl (by kernel_rfl) ?_) | (refine wpList_load_any 43 _ rfl rfl _ 2 rfl (enP o) _ (tape_ask (HS.out.blk 0 rfl)) Try.underlying43 rfl (by kernel_rfl) ?_))
              refine (vend_any _ b cs hsz r seq u (HS.out.blk 5 rfl)).mono ?_
              rintro e w9 ⟨rfl, hf⟩
              have HS := Lib.hid (HS.out.fr0 hf); clear hf b8 b8l HNE
              obtain ⟨hv, hh, hst⟩ := HAO.out (by first | rfl | trivial)
              try dsimp only at hv hh hst
              have HRR := Lib.hid (HRO.out (by first | rfl | trivial))
              subst hv
              subst hh
              clear hst HAO
              go_wp2_with (first | (refine wpList_load_any 34 _ rfl rfl _ 0 rfl (xL c r seq u.held rxs) _ (HS.out.blk 1 rfl).range Try.underlying34 rfl (by kernel_rfl) ?_) | (refine wpList_store_sep HS.out 4 rfl (xL c r seq u.held rxs) 34 _ _ rfl rfl rfl rfl rfl (by kernel_rfl) (hoX ⟨u.held, rxs⟩) (fun wX hX _ => ?_); have HSX := Lib.hid hX; clear hX))
              have hS := HSX.out
              simp only [List.set_cons_zero, List.set_cons_succ] at hS
              have x8 : wX.cell? ⟨XB, 8, none⟩ = some (.int .i64 u.held) := (hS.blk 4 rfl).cell 8
              have x8l := (hS.blk 4 rfl).lt
              have HS := Lib.hid hS.drew; clear hS HSX
              refine wp_region_fr [(1, [0, 2, 3]), (2, [1]), (0, [4])] [] (by kernel_rfl) (by kernel_rfl) ?_
              simp only [theOps, nthOp, List.map_cons, List.map_nil, Array.getD_eq_getD_getElem?, List.getElem?_toArray, List.getElem?_cons_succ, List.getElem?_cons_zero, Option.getD_some]
              refine wpSegs_soft ?_
              repeat (first | go_big_quiet_step (fail) | quiet_step (fail))
              refine wpQuiet_nil ?_
              refine wpSegs_keep ?_
              go_wp2_with fail
              refine (held_any _ b cs hsz r seq u (HS.out.blk 5 rfl)).mono ?_
              rintro e w10 ⟨rfl, hf⟩
              have HF := Lib.hid hf
              have HS := Lib.hid (HS.out.fr0 hf); clear hf x8 x8l
              go_wp2_with fail
              refine ⟨⟨⟨_, (by exact HF.out)⟩, rfl⟩, ?_⟩
              repeat ((first | refine wpSegs_soft ?_ | refine wpSegs_pure ?_ | refine wpSegs_here ?_); (repeat (first | go_big_quiet_step (fail) | quiet_step (fail))); refine wpQuiet_nil ?_)
              refine wpSegs_done ?_
              go_wp2_with fail
              go_roundg (L.length - (i + 1))
              case measure => omega
              case rel => exact ⟨i + 1, k, ⟨u.held, rxs⟩, u, by omega, hk2, rfl, rfl, by go_num, HRR.out, HS.out.sub [4, 5, 6] rfl (by decide)⟩
            · go_wp2_with (first | (refine wpList_load_any 43 _ rfl rfl _ 0 rfl (enP o) _ (HS.out.blk 2 rfl).range Try.underlying43 rfl (by kernel_rfl) ?_) | (refine wpList_load_any 43 _ rfl rfl _ 2 rfl (enP o) _ (tape_ask (HS.out.blk 0 rfl)) Try.underlying43 rfl (by kernel_rfl) ?_))
              refine (vend_any _ b cs hsz r seq u (HS.out.blk 5 rfl)).mono ?_
              rintro e w9 ⟨rfl, hf⟩
              have HS := Lib.hid (HS.out.fr0 hf); clear hf b8 b8l HNE
              have HUS := Lib.hid (HAS.out (by first | rfl | trivial))
              by_cases hke : k = n
              · have hkq : ((k : Int) == (n : Int)) = true := by simp [hke]
                go_wp2_with fail
                go_ret
                exact ⟨rfl, HS.out.fr⟩
              · have hkq : ((k : Int) == (n : Int)) = false := by simp; omega
                have hkl : (k : Int) < (n : Int) := by omega
                have hkO : k < O.length := by omega
                obtain ⟨z, rfl, hzw, hc0, hc1⟩ := hO.at (i := k) hkO
                generalize ho3 : O[k]'hkO = o3 at hc0 hc1
                obtain ⟨h1, h2⟩ := HSN.out o3 hkO ho3 HUS.out
                obtain ⟨ov, os, ook⟩ := o3
                have y0 := HS.out.fr.cell (hc0 _ rfl) (by simp)
                have y1 := HS.out.fr.cell (hc1 0 _ rfl) (by simp)
                have y2 := HS.out.fr.cell (hc1 1 _ rfl) (by simp)
                simp only [Nat.zero_add, Nat.reduceAdd] at y1 y2
                have H1 := Lib.hid h1; have H2 := Lib.hid h2
                clear hc0 hc1 ho3 h1 h2
                go_wp2_with fail
                refine (HS.out.call 5 rfl (fun R hR => vtell_any b cs hsz r seq u ov os ook hR)).mono ?_
                rintro e w10 ⟨rfl, hS⟩
                simp only [List.set_cons_zero, List.set_cons_succ] at hS
                have HS := Lib.hid hS; clear hS y0 y1 y2
                go_wp2_with fail
                go_roundg (n + 1 - (k + 1))
                case measure => omega
                case rel => exact ⟨k + 1, rfl, by omega, by omega, by go_num, H1.out, by rw [H2.out]; exact HS.out.sub [3, 4, 5, 6] rfl (by decide)⟩
          · go_wp2_with fail
            have hf := Fr.alloc HF.out (.cells [Value.slice none 0 0, .int .i64 0, .int .i64 0, .int .i64 0, .int .u64 0, .int .u64 0, .int .u64 0, .int .u64 0, .bool false].toArray 47)
            have hS := HS.out.new 47 [Value.slice none 0 0, .int .i64 0, .int .i64 0, .int .i64 0, .int .u64 0, .int .u64 0, .int .u64 0, .int .u64 0, .bool false]
            have HF := Lib.hid hf; have HS := Lib.hid hS; clear hf hS
            refine ⟨⟨⟨_, (by exact HF.out)⟩, rfl⟩, ?_⟩
            generalize World.alloc _ _ = w8 at HF HS ⊢
            generalize w6.heap.size = TB at HS ⊢
            refine step_keep (N := 4) 13 (by kernel_rfl) rfl ?_
            go_wp2_with fail
            have hf := Fr.alloc HF.out (.cells [.int .i64 0, .int .i64 0, .int .i64 0, .int .i64 0, .int .u64 0, .int .u64 0, .int .i64 0, .int .u64 0, .int .i64 0, .bool false].toArray 34)
            have hS := HS.out.new 34 [.int .i64 0, .int .i64 0, .int .i64 0, .int .i64 0, .int .u64 0, .int .u64 0, .int .i64 0, .int .u64 0, .int .i64 0, .bool false]
            have HF := Lib.hid hf; have HS := Lib.hid hS; clear hf hS
            refine ⟨⟨⟨_, (by exact HF.out)⟩, rfl⟩, ?_⟩
            generalize World.alloc _ _ = w7 at HF HS ⊢
            generalize w8.heap.size = VB at HS ⊢
            have HS := Lib.hid (HS.out.pull 1 rfl)
            clear HF HO4
            refine step_hard (N := 3) 15 (by kernel_rfl) rfl ?_
            refine wpList_store_sep HS.out 1 rfl (xL c r seq rxh rxs) 34 _ _ rfl rfl rfl rfl rfl (by kernel_rfl) (hoX ⟨rxh, rxs⟩) (fun wT hT _ => ?_)
            have HS := Lib.hid hT; clear hT
            go_wp2_with fail
            refine step_hard (N := 2) 16 (by kernel_rfl) rfl ?_
            refine wpList_store_sep HS.out 0 rfl (tapeL (.slice sa (k - f) (oc - f)) ⟨rj, o, okb⟩) 47 _ _ rfl rfl rfl rfl rfl (by kernel_rfl) (tapeL_one _ _ _ _) (fun wU hU _ => ?_)
            have HS := Lib.hid hU; clear hU
            simp only [List.set_cons_zero, List.set_cons_succ] at HS
            go_wp2_with fail
            refine step_pures (N := 0) [17, 18] (by kernel_rfl) ?_
            simp only [theOps, nthOp, List.map_cons, List.map_nil, Array.getD_eq_getD_getElem?, List.getElem?_toArray, List.getElem?_cons_succ, List.getElem?_cons_zero, Option.getD_some]
            repeat (first | go_big_quiet_step (fail) | quiet_step (fail))
            refine wpQuiet_nil ?_
            refine step_done rfl ?_
            have b8 := (HS.out.blk 0 rfl).cell 8
            have b8l := (HS.out.blk 0 rfl).lt
            simp only [tapeL, List.getElem?_cons_zero, List.getElem?_cons_succ] at b8
            have HNE := fun w => neq_op_self w o
            cases okb
            · go_wp2_with (first | (refine wpList_load_any 43 _ rfl rfl _ 0 rfl (enP o) _ (HS.out.blk 2 rfl).range Try.underlying43 rfl (by kernel_rfl) ?_) | (refine wpList_load_any 43 _ rfl rfl _ 2 rfl (enP o) _ (tape_ask (HS.out.blk 0 rfl)) Try.underlying43 rfl (by kernel_rfl) ?_))
              refine (vend_any _ b cs hsz r seq u (HS.out.blk 5 rfl)).mono ?_
              rintro e w9 ⟨rfl, hf⟩
              have HS := Lib.hid (HS.out.fr0 hf); clear hf b8 b8l HNE
              obtain ⟨hv, hh, hst⟩ := HAO.out (by first | rfl | trivial)
              try dsimp only at hv hh hst
              have HRR := Lib.hid (HRO.out (by first | rfl | trivial))
              subst hv
              subst hh
              clear hst HAO
              go_wp2_with (first | (refine wpList_load_any 34 _ rfl rfl _ 0 rfl (xL c r seq u.held rxs) _ (HS.out.blk 1 rfl).range Try.underlying34 rfl (by kernel_rfl) ?_) | (refine wpList_store_sep HS.out 4 rfl (xL c r seq u.held rxs) 34 _ _ rfl rfl rfl rfl rfl (by kernel_rfl) (hoX ⟨u.held, rxs⟩) (fun wX hX _ => ?_); have HSX := Lib.hid hX; clear hX))
              have hS := HSX.out
              simp only [List.set_cons_zero, List.set_cons_succ] at hS
              have x8 : wX.cell? ⟨XB, 8, none⟩ = some (.int .i64 u.held) := (hS.blk 4 rfl).cell 8
              have x8l := (hS.blk 4 rfl).lt
              have HS := Lib.hid hS.drew; clear hS HSX
              refine wp_region_fr [(1, [0, 2, 3]), (2, [1]), (0, [4])] [] (by kernel_rfl) (by kernel_rfl) ?_
              simp only [theOps, nthOp, List.map_cons, List.map_nil, Array.getD_eq_getD_getElem?, List.getElem?_toArray, List.getElem?_cons_succ, List.getElem?_cons_zero, Option.getD_some]
              refine wpSegs_soft ?_
              repeat (first | go_big_quiet_step (fail) | quiet_step (fail))
              refine wpQuiet_nil ?_
              refine wpSegs_keep ?_
              go_wp2_with fail
              refine (held_any _ b cs hsz r seq u (HS.out.blk 5 rfl)).mono ?_
              rintro e w10 ⟨rfl, hf⟩
              have HF := Lib.hid hf
              have HS := Lib.hid (HS.out.fr0 hf); clear hf x8 x8l
              go_wp2_with fail
              refine ⟨⟨⟨_, (by exact HF.out)⟩, rfl⟩, ?_⟩
              repeat ((first | refine wpSegs_soft ?_ | refine wpSegs_pure ?_ | refine wpSegs_here ?_); (repeat (first | go_big_quiet_step (fail) | quiet_step (fail))); refine wpQuiet_nil ?_)
              refine wpSegs_done ?_
              go_wp2_with fail
              go_roundg (L.length - (i + 1))
              case measure => omega
              case rel => exact ⟨i + 1, k, ⟨u.held, rxs⟩, u, by omega, hk2, rfl, rfl, by go_num, HRR.out, HS.out.sub [4, 5, 6] rfl (by decide)⟩
            · go_wp2_with (first | (refine wpList_load_any 43 _ rfl rfl _ 0 rfl (enP o) _ (HS.out.blk 2 rfl).range Try.underlying43 rfl (by kernel_rfl) ?_) | (refine wpList_load_any 43 _ rfl rfl _ 2 rfl (enP o) _ (tape_ask (HS.out.blk 0 rfl)) Try.underlying43 rfl (by kernel_rfl) ?_))
              refine (vend_any _ b cs hsz r seq u (HS.out.blk 5 rfl)).mono ?_
              rintro e w9 ⟨rfl, hf⟩
              have HS := Lib.hid (HS.out.fr0 hf); clear hf b8 b8l HNE
              have HUS := Lib.hid (HAS.out (by first | rfl | trivial))
              by_cases hke : k = n
              · have hkq : ((k : Int) == (n : Int)) = true := by simp [hke]
                go_wp2_with fail
                go_ret
                exact ⟨rfl, HS.out.fr⟩
              · have hkq : ((k : Int) == (n : Int)) = false := by simp; omega
                have hkl : (k : Int) < (n : Int) := by omega
                have hkO : k < O.length := by omega
                obtain ⟨z, rfl, hzw, hc0, hc1⟩ := hO.at (i := k) hkO
                generalize ho3 : O[k]'hkO = o3 at hc0 hc1
                obtain ⟨h1, h2⟩ := HSN.out o3 hkO ho3 HUS.out
                obtain ⟨ov, os, ook⟩ := o3
                have y0 := HS.out.fr.cell (hc0 _ rfl) (by simp)
                have y1 := HS.out.fr.cell (hc1 0 _ rfl) (by simp)
                have y2 := HS.out.fr.cell (hc1 1 _ rfl) (by simp)
                simp only [Nat.zero_add, Nat.reduceAdd] at y1 y2
                have H1 := Lib.hid h1; have H2 := Lib.hid h2
                clear hc0 hc1 ho3 h1 h2
                go_wp2_with fail
                refine (HS.out.call 5 rfl (fun R hR => vtell_any b cs hsz r seq u ov os ook hR)).mono ?_
                rintro e w10 ⟨rfl, hS⟩
                simp only [List.set_cons_zero, List.set_cons_succ] at hS
                have HS := Lib.hid hS; clear hS y0 y1 y2
                go_wp2_with fail
                go_roundg (n + 1 - (k + 1))
                case measure => omega
                case rel => exact ⟨k + 1, rfl, by omega, by omega, by go_num, H1.out, by rw [H2.out]; exact HS.out.sub [3, 4, 5, 6] rfl (by decide)⟩
        · go_wp2_with fail
          have hf := Fr.alloc HF.out (.cells [.int .i64 0, .int .i64 0, .int .i64 0, .int .i64 0, .int .u64 0, .int .u64 0, .int .i64 0, .int .u64 0, .int .i64 0, .bool false].toArray 34)
          have hS := HS.out.new 34 [.int .i64 0, .int .i64 0, .int .i64 0, .int .i64 0, .int .u64 0, .int .u64 0, .int .i64 0, .int .u64 0, .int .i64 0, .bool false]
          have HF := Lib.hid hf; have HS := Lib.hid hS; clear hf hS
          refine ⟨⟨⟨_, (by exact HF.out)⟩, rfl⟩, ?_⟩
          generalize World.alloc _ _ = w7 at HF HS ⊢
          generalize wd.heap.size = VB at HS ⊢
          refine step_two (N := 10) 7 14 (by kernel_rfl) rfl rfl ?_ ?_
          · go_wp2_with fail
            refine (HO4.out _ HS.out.fr).mono ?_
            rintro e w6 ⟨rfl, hf⟩
            have HF := Lib.hid (HF.out.trans hf)
            have HS := Lib.hid (HS.out.fr0 hf); clear hf
            go_wp2_with fail
            refine ⟨⟨⟨_, (by exact HF.out)⟩, rfl⟩, ?_⟩
            refine step_pures (N := 5) [8, 9, 10, 11, 12] (by kernel_rfl) ?_
            simp only [theOps, nthOp, List.map_cons, List.map_nil, Array.getD_eq_getD_getElem?, List.getElem?_toArray, List.getElem?_cons_succ, List.getElem?_cons_zero, Option.getD_some]
            repeat (first | go_big_quiet_step (fail) | quiet_step (fail))
            refine wpQuiet_nil ?_
            refine step_keep (N := 4) 14 (by kernel_rfl) rfl ?_
            go_wp2_with fail
            have hf := Fr.alloc HF.out (.cells [Value.slice none 0 0, .int .i64 0, .int .i64 0, .int .i64 0, .int .u64 0, .int .u64 0, .int .u64 0, .int .u64 0, .bool false].toArray 47)
            have hS := HS.out.new 47 [Value.slice none 0 0, .int .i64 0, .int .i64 0, .int .i64 0, .int .u64 0, .int .u64 0, .int .u64 0, .int .u64 0, .bool false]
            have HF := Lib.hid hf; have HS := Lib.hid hS; clear hf hS
            refine ⟨⟨⟨_, (by exact HF.out)⟩, rfl⟩, ?_⟩
            generalize World.alloc _ _ = w8 at HF HS ⊢
            generalize w6.heap.size = TB at HS ⊢
            clear HF HO4
            refine step_hard (N := 3) 15 (by kernel_rfl) rfl ?_
            refine wpList_store_sep HS.out 1 rfl (xL c r seq rxh rxs) 34 _ _ rfl rfl rfl rfl rfl (by kernel_rfl) (hoX ⟨rxh, rxs⟩) (fun wT hT _ => ?_)
            have HS := Lib.hid hT; clear hT
            go_wp2_with fail
            refine step_hard (N := 2) 16 (by kernel_rfl) rfl ?_
            refine wpList_store_sep HS.out 0 rfl (tapeL (.slice sa (k - f) (oc - f)) ⟨rj, o, okb⟩) 47 _ _ rfl rfl rfl rfl rfl (by kernel_rfl) (tapeL_one _ _ _ _) (fun wU hU _ => ?_)
            have HS := Lib.hid hU; clear hU
            simp only [List.set_cons_zero, List.set_cons_succ] at HS
            go_wp2_with fail
            refine step_pures (N := 0) [17, 18] (by kernel_rfl) ?_
            simp only [theOps, nthOp, List.map_cons, List.map_nil, Array.getD_eq_getD_getElem?, List.getElem?_toArray, List.getElem?_cons_succ, List.getElem?_cons_zero, Option.getD_some]
            repeat (first | go_big_quiet_step (fail) | quiet_step (fail))
            refine wpQuiet_nil ?_
            refine step_done rfl ?_
            have b8 := (HS.out.blk 0 rfl).cell 8
            have b8l := (HS.out.blk 0 rfl).lt
            simp only [tapeL, List.getElem?_cons_zero, List.getElem?_cons_succ] at b8
            have HNE := fun w => neq_op_self w o
            cases okb
            · go_wp2_with (first | (refine wpList_load_any 43 _ rfl rfl _ 0 rfl (enP o) _ (HS.out.blk 2 rfl).range Try.underlying43 rfl (by kernel_rfl) ?_) | (refine wpList_load_any 43 _ rfl rfl _ 2 rfl (enP o) _ (tape_ask (HS.out.blk 0 rfl)) Try.underlying43 rfl (by kernel_rfl) ?_))
              refine (vend_any _ b cs hsz r seq u (HS.out.blk 5 rfl)).mono ?_
              rintro e w9 ⟨rfl, hf⟩
              have HS := Lib.hid (HS.out.fr0 hf); clear hf b8 b8l HNE
              obtain ⟨hv, hh, hst⟩ := HAO.out (by first | rfl | trivial)
              try dsimp only at hv hh hst
              have HRR := Lib.hid (HRO.out (by first | rfl | trivial))
              subst hv
              subst hh
              clear hst HAO
              go_wp2_with (first | (refine wpList_load_any 34 _ rfl rfl _ 0 rfl (xL c r seq u.held rxs) _ (HS.out.blk 1 rfl).range Try.underlying34 rfl (by kernel_rfl) ?_) | (refine wpList_store_sep HS.out 4 rfl (xL c r seq u.held rxs) 34 _ _ rfl rfl rfl rfl rfl (by kernel_rfl) (hoX ⟨u.held, rxs⟩) (fun wX hX _ => ?_); have HSX := Lib.hid hX; clear hX))
              have hS := HSX.out
              simp only [List.set_cons_zero, List.set_cons_succ] at hS
              have x8 : wX.cell? ⟨XB, 8, none⟩ = some (.int .i64 u.held) := (hS.blk 4 rfl).cell 8
              have x8l := (hS.blk 4 rfl).lt
              have HS := Lib.hid hS.drew; clear hS HSX
              refine wp_region_fr [(1, [0, 2, 3]), (2, [1]), (0, [4])] [] (by kernel_rfl) (by kernel_rfl) ?_
              simp only [theOps, nthOp, List.map_cons, List.map_nil, Array.getD_eq_getD_getElem?, List.getElem?_toArray, List.getElem?_cons_succ, List.getElem?_cons_zero, Option.getD_some]
              refine wpSegs_soft ?_
              repeat (first | go_big_quiet_step (fail) | quiet_step (fail))
              refine wpQuiet_nil ?_
              refine wpSegs_keep ?_
              go_wp2_with fail
              refine (held_any _ b cs hsz r seq u (HS.out.blk 5 rfl)).mono ?_
              rintro e w10 ⟨rfl, hf⟩
              have HF := Lib.hid hf
              have HS := Lib.hid (HS.out.fr0 hf); clear hf x8 x8l
              go_wp2_with fail
              refine ⟨⟨⟨_, (by exact HF.out)⟩, rfl⟩, ?_⟩
              repeat ((first | refine wpSegs_soft ?_ | refine wpSegs_pure ?_ | refine wpSegs_here ?_); (repeat (first | go_big_quiet_step (fail) | quiet_step (fail))); refine wpQuiet_nil ?_)
              refine wpSegs_done ?_
              go_wp2_with fail
              go_roundg (L.length - (i + 1))
              case measure => omega
              case rel => exact ⟨i + 1, k, ⟨u.held, rxs⟩, u, by omega, hk2, rfl, rfl, by go_num, HRR.out, HS.out.sub [4, 5, 6] rfl (by decide)⟩
            · go_wp2_with (first | (refine wpList_load_any 43 _ rfl rfl _ 0 rfl (enP o) _ (HS.out.blk 2 rfl).range Try.underlying43 rfl (by kernel_rfl) ?_) | (refine wpList_load_any 43 _ rfl rfl _ 2 rfl (enP o) _ (tape_ask (HS.out.blk 0 rfl)) Try.underlying43 rfl (by kernel_rfl) ?_))
              refine (vend_any _ b cs hsz r seq u (HS.out.blk 5 rfl)).mono ?_
              rintro e w9 ⟨rfl, hf⟩
              have HS := Lib.hid (HS.out.fr0 hf); clear hf b8 b8l HNE
              have HUS := Lib.hid (HAS.out (by first | rfl | trivial))
              by_cases hke : k = n
              · have hkq : ((k : Int) == (n : Int)) = true := by simp [hke]
                go_wp2_with fail
                go_ret
                exact ⟨rfl, HS.out.fr⟩
              · have hkq : ((k : Int) == (n : Int)) = false := by simp; omega
                have hkl : (k : Int) < (n : Int) := by omega
                have hkO : k < O.length := by omega
                obtain ⟨z, rfl, hzw, hc0, hc1⟩ := hO.at (i := k) hkO
                generalize ho3 : O[k]'hkO = o3 at hc0 hc1
                obtain ⟨h1, h2⟩ := HSN.out o3 hkO ho3 HUS.out
                obtain ⟨ov, os, ook⟩ := o3
                have y0 := HS.out.fr.cell (hc0 _ rfl) (by simp)
                have y1 := HS.out.fr.cell (hc1 0 _ rfl) (by simp)
                have y2 := HS.out.fr.cell (hc1 1 _ rfl) (by simp)
                simp only [Nat.zero_add, Nat.reduceAdd] at y1 y2
                have H1 := Lib.hid h1; have H2 := Lib.hid h2
                clear hc0 hc1 ho3 h1 h2
                go_wp2_with fail
                refine (HS.out.call 5 rfl (fun R hR => vtell_any b cs hsz r seq u ov os ook hR)).mono ?_
                rintro e w10 ⟨rfl, hS⟩
                simp only [List.set_cons_zero, List.set_cons_succ] at hS
                have HS := Lib.hid hS; clear hS y0 y1 y2
                go_wp2_with fail
                go_roundg (n + 1 - (k + 1))
                case measure => omega
                case rel => exact ⟨k + 1, rfl, by omega, by omega, by go_num, H1.out, by rw [H2.out]; exact HS.out.sub [3, 4, 5, 6] rfl (by decide)⟩
          · go_wp2_with fail
            have hf := Fr.alloc HF.out (.cells [Value.slice none 0 0, .int .i64 0, .int .i64 0, .int .i64 0, .int .u64 0, .int .u64 0, .int .u64 0, .int .u64 0, .bool false].toArray 47)
            have hS := HS.out.new 47 [Value.slice none 0 0, .int .i64 0, .int .i64 0, .int .i64 0, .int .u64 0, .int .u64 0, .int .u64 0, .int .u64 0, .bool false]
            have HF := Lib.hid hf; have HS := Lib.hid hS; clear hf hS
            refine ⟨⟨⟨_, (by exact HF.out)⟩, rfl⟩, ?_⟩
            generalize World.alloc _ _ = w8 at HF HS ⊢
            generalize w7.heap.size = TB at HS ⊢
            refine step_keep (N := 9) 7 (by kernel_rfl) rfl ?_
            go_wp2_with fail
            refine (HO4.out _ HS.out.fr).mono ?_
            rintro e w6 ⟨rfl, hf⟩
            have HF := Lib.hid (HF.out.trans hf)
            have HS := Lib.hid (HS.out.fr0 hf); clear hf
            go_wp2_with fail
            refine ⟨⟨⟨_, (by exact HF.out)⟩, rfl⟩, ?_⟩
            refine step_pures (N := 4) [8, 9, 10, 11, 12] (by kernel_rfl) ?_
            simp only [theOps, nthOp, List.map_cons, List.map_nil, Array.getD_eq_getD_getElem?, List.getElem?_toArray, List.getElem?_cons_succ, List.getElem?_cons_zero, Option.getD_some]
            repeat (first | go_big_quiet_step (fail) | quiet_step (fail))
            refine wpQuiet_nil ?_
            clear HF HO4
            refine step_hard (N := 3) 15 (by kernel_rfl) rfl ?_
            refine wpList_store_sep HS.out 1 rfl (xL c r seq rxh rxs) 34 _ _ rfl rfl rfl rfl rfl (by kernel_rfl) (hoX ⟨rxh, rxs⟩) (fun wT hT _ => ?_)
            have HS := Lib.hid hT; clear hT
            go_wp2_with fail
            refine step_hard (N := 2) 16 (by kernel_rfl) rfl ?_
            refine wpList_store_sep HS.out 0 rfl (tapeL (.slice sa (k - f) (oc - f)) ⟨rj, o, okb⟩) 47 _ _ rfl rfl rfl rfl rfl (by kernel_rfl) (tapeL_one _ _ _ _) (fun wU hU _ => ?_)
            have HS := Lib.hid hU; clear hU
            simp only [List.set_cons_zero, List.set_cons_succ] at HS
            go_wp2_with fail
            refine step_pures (N := 0) [17, 18] (by kernel_rfl) ?_
            simp only [theOps, nthOp, List.map_cons, List.map_nil, Array.getD_eq_getD_getElem?, List.getElem?_toArray, List.getElem?_cons_succ, List.getElem?_cons_zero, Option.getD_some]
            repeat (first | go_big_quiet_step (fail) | quiet_step (fail))
            refine wpQuiet_nil ?_
            refine step_done rfl ?_
            have b8 := (HS.out.blk 0 rfl).cell 8
            have b8l := (HS.out.blk 0 rfl).lt
            simp only [tapeL, List.getElem?_cons_zero, List.getElem?_cons_succ] at b8
            have HNE := fun w => neq_op_self w o
            cases okb
            · go_wp2_with (first | (refine wpList_load_any 43 _ rfl rfl _ 0 rfl (enP o) _ (HS.out.blk 2 rfl).range Try.underlying43 rfl (by kernel_rfl) ?_) | (refine wpList_load_any 43 _ rfl rfl _ 2 rfl (enP o) _ (tape_ask (HS.out.blk 0 rfl)) Try.underlying43 rfl (by kernel_rfl) ?_))
              refine (vend_any _ b cs hsz r seq u (HS.out.blk 5 rfl)).mono ?_
              rintro e w9 ⟨rfl, hf⟩
              have HS := Lib.hid (HS.out.fr0 hf); clear hf b8 b8l HNE
              obtain ⟨hv, hh, hst⟩ := HAO.out (by first | rfl | trivial)
              try dsimp only at hv hh hst
              have HRR := Lib.hid (HRO.out (by first | rfl | trivial))
              subst hv
              subst hh
              clear hst HAO
              go_wp2_with (first | (refine wpList_load_any 34 _ rfl rfl _ 0 rfl (xL c r seq u.held rxs) _ (HS.out.blk 1 rfl).range Try.underlying34 rfl (by kernel_rfl) ?_) | (refine wpList_store_sep HS.out 4 rfl (xL c r seq u.held rxs) 34 _ _ rfl rfl rfl rfl rfl (by kernel_rfl) (hoX ⟨u.held, rxs⟩) (fun wX hX _ => ?_); have HSX := Lib.hid hX; clear hX))
              have hS := HSX.out
              simp only [List.set_cons_zero, List.set_cons_succ] at hS
              have x8 : wX.cell? ⟨XB, 8, none⟩ = some (.int .i64 u.held) := (hS.blk 4 rfl).cell 8
              have x8l := (hS.blk 4 rfl).lt
              have HS := Lib.hid hS.drew; clear hS HSX
              refine wp_region_fr [(1, [0, 2, 3]), (2, [1]), (0, [4])] [] (by kernel_rfl) (by kernel_rfl) ?_
              simp only [theOps, nthOp, List.map_cons, List.map_nil, Array.getD_eq_getD_getElem?, List.getElem?_toArray, List.getElem?_cons_succ, List.getElem?_cons_zero, Option.getD_some]
              refine wpSegs_soft ?_
              repeat (first | go_big_quiet_step (fail) | quiet_step (fail))
              refine wpQuiet_nil ?_
              refine wpSegs_keep ?_
              go_wp2_with fail
              refine (held_any _ b cs hsz r seq u (HS.out.blk 5 rfl)).mono ?_
              rintro e w10 ⟨rfl, hf⟩
              have HF := Lib.hid hf
              have HS := Lib.hid (HS.out.fr0 hf); clear hf x8 x8l
              go_wp2_with fail
              refine ⟨⟨⟨_, (by exact HF.out)⟩, rfl⟩, ?_⟩
              repeat ((first | refine wpSegs_soft ?_ | refine wpSegs_pure ?_ | refine wpSegs_here ?_); (repeat (first | go_big_quiet_step (fail) | quiet_step (fail))); refine wpQuiet_nil ?_)
              refine wpSegs_done ?_
              go_wp2_with fail
              go_roundg (L.length - (i + 1))
              case measure => omega
              case rel => exact ⟨i + 1, k, ⟨u.held, rxs⟩, u, by omega, hk2, rfl, rfl, by go_num, HRR.out, HS.out.sub [4, 5, 6] rfl (by decide)⟩
            · go_wp2_with (first | (refine wpList_load_any 43 _ rfl rfl _ 0 rfl (enP o) _ (HS.out.blk 2 rfl).range Try.underlying43 rfl (by kernel_rfl) ?_) | (refine wpList_load_any 43 _ rfl rfl _ 2 rfl (enP o) _ (tape_ask (HS.out.blk 0 rfl)) Try.underlying43 rfl (by kernel_rfl) ?_))
              refine (vend_any _ b cs hsz r seq u (HS.out.blk 5 rfl)).mono ?_
              rintro e w9 ⟨rfl, hf⟩
              have HS := Lib.hid (HS.out.fr0 hf); clear hf b8 b8l HNE
              have HUS := Lib.hid (HAS.out (by first | rfl | trivial))
              by_cases hke : k = n
              · have hkq : ((k : Int) == (n : Int)) = true := by simp [hke]
                go_wp2_with fail
                go_ret
                exact ⟨rfl, HS.out.fr⟩
              · have hkq : ((k : Int) == (n : Int)) = false := by simp; omega
                have hkl : (k : Int) < (n : Int) := by omega
                have hkO : k < O.length := by omega
                obtain ⟨z, rfl, hzw, hc0, hc1⟩ := hO.at (i := k) hkO
                generalize ho3 : O[k]'hkO = o3 at hc0 hc1
                obtain ⟨h1, h2⟩ := HSN.out o3 hkO ho3 HUS.out
                obtain ⟨ov, os, ook⟩ := o3
                have y0 := HS.out.fr.cell (hc0 _ rfl) (by simp)
                have y1 := HS.out.fr.cell (hc1 0 _ rfl) (by simp)
                have y2 := HS.out.fr.cell (hc1 1 _ rfl) (by simp)
                simp only [Nat.zero_add, Nat.reduceAdd] at y1 y2
                have H1 := Lib.hid h1; have H2 := Lib.hid h2
                clear hc0 hc1 ho3 h1 h2
                go_wp2_with fail
                refine (HS.out.call 5 rfl (fun R hR => vtell_any b cs hsz r seq u ov os ook hR)).mono ?_
                rintro e w10 ⟨rfl, hS⟩
                simp only [List.set_cons_zero, List.set_cons_succ] at hS
                have HS := Lib.hid hS; clear hS y0 y1 y2
                go_wp2_with fail
                go_roundg (n + 1 - (k + 1))
                case measure => omega
                case rel => exact ⟨k + 1, rfl, by omega, by omega, by go_num, H1.out, by rw [H2.out]; exact HS.out.sub [3, 4, 5, 6] rfl (by decide)⟩
        · go_wp2_with fail
          have hf := Fr.alloc HF.out (.cells [Value.slice none 0 0, .int .i64 0, .int .i64 0, .int .i64 0, .int .u64 0, .int .u64 0, .int .u64 0, .int .u64 0, .bool false].toArray 47)
          have hS := HS.out.new 47 [Value.slice none 0 0, .int .i64 0, .int .i64 0, .int .i64 0, .int .u64 0, .int .u64 0, .int .u64 0, .int .u64 0, .bool false]
          have HF := Lib.hid hf; have HS := Lib.hid hS; clear hf hS
          refine ⟨⟨⟨_, (by exact HF.out)⟩, rfl⟩, ?_⟩
          generalize World.alloc _ _ = w8 at HF HS ⊢
          generalize wd.heap.size = TB at HS ⊢
          refine step_two (N := 10) 7 13 (by kernel_rfl) rfl rfl ?_ ?_
          · go_wp2_with fail
            refine (HO4.out _ HS.out.fr).mono ?_
            rintro e w6 ⟨rfl, hf⟩
            have HF := Lib.hid (HF.out.trans hf)
            have HS := Lib.hid (HS.out.fr0 hf); clear hf
            go_wp2_with fail
            refine ⟨⟨⟨_, (by exact HF.out)⟩, rfl⟩, ?_⟩
            refine step_pures (N := 5) [8, 9, 10, 11, 12] (by kernel_rfl) ?_
            simp only [theOps, nthOp, List.map_cons, List.map_nil, Array.getD_eq_getD_getElem?, List.getElem?_toArray, List.getElem?_cons_succ, List.getElem?_cons_zero, Option.getD_some]
            repeat (first | go_big_quiet_step (fail) | quiet_step (fail))
            refine wpQuiet_nil ?_
            refine step_keep (N := 4) 13 (by kernel_rfl) rfl ?_
            go_wp2_with fail
            have hf := Fr.alloc HF.out (.cells [.int .i64 0, .int .i64 0, .int .i64 0, .int .i64 0, .int .u64 0, .int .u64 0, .int .i64 0, .int .u64 0, .int .i64 0, .bool false].toArray 34)
            have hS := HS.out.new 34 [.int .i64 0, .int .i64 0, .int .i64 0, .int .i64 0, .int .u64 0, .int .u64 0, .int .i64 0, .int .u64 0, .int .i64 0, .bool false]
            have HF := Lib.hid hf; have HS := Lib.hid hS; clear hf hS
            refine ⟨⟨⟨_, (by exact HF.out)⟩, rfl⟩, ?_⟩
            generalize World.alloc _ _ = w7 at HF HS ⊢
            generalize w6.heap.size = VB at HS ⊢
            have HS := Lib.hid (HS.out.pull 1 rfl)
            clear HF HO4
            refine step_hard (N := 3) 15 (by kernel_rfl) rfl ?_
            refine wpList_store_sep HS.out 1 rfl (xL c r seq rxh rxs) 34 _ _ rfl rfl rfl rfl rfl (by kernel_rfl) (hoX ⟨rxh, rxs⟩) (fun wT hT _ => ?_)
            have HS := Lib.hid hT; clear hT
            go_wp2_with fail
            refine step_hard (N := 2) 16 (by kernel_rfl) rfl ?_
            refine wpList_store_sep HS.out 0 rfl (tapeL (.slice sa (k - f) (oc - f)) ⟨rj, o, okb⟩) 47 _ _ rfl rfl rfl rfl rfl (by kernel_rfl) (tapeL_one _ _ _ _) (fun wU hU _ => ?_)
            have HS := Lib.hid hU; clear hU
            simp only [List.set_cons_zero, List.set_cons_succ] at HS
            go_wp2_with fail
            refine step_pures (N := 0) [17, 18] (by kernel_rfl) ?_
            simp only [theOps, nthOp, List.map_cons, List.map_nil, Array.getD_eq_getD_getElem?, List.getElem?_toArray, List.getElem?_cons_succ, List.getElem?_cons_zero, Option.getD_some]
            repeat (first | go_big_quiet_step (fail) | quiet_step (fail))
            refine wpQuiet_nil ?_
            refine step_done rfl ?_
            have b8 := (HS.out.blk 0 rfl).cell 8
            have b8l := (HS.out.blk 0 rfl).lt
            simp only [tapeL, List.getElem?_cons_zero, List.getElem?_cons_succ] at b8
            have HNE := fun w => neq_op_self w o
            cases okb
            · go_wp2_with (first | (refine wpList_load_any 43 _ rfl rfl _ 0 rfl (enP o) _ (HS.out.blk 2 rfl).range Try.underlying43 rfl (by kernel_rfl) ?_) | (refine wpList_load_any 43 _ rfl rfl _ 2 rfl (enP o) _ (tape_ask (HS.out.blk 0 rfl)) Try.underlying43 rfl (by kernel_rfl) ?_))
              refine (vend_any _ b cs hsz r seq u (HS.out.blk 5 rfl)).mono ?_
              rintro e w9 ⟨rfl, hf⟩
              have HS := Lib.hid (HS.out.fr0 hf); clear hf b8 b8l HNE
              obtain ⟨hv, hh, hst⟩ := HAO.out (by first | rfl | trivial)
              try dsimp only at hv hh hst
              have HRR := Lib.hid (HRO.out (by first | rfl | trivial))
              subst hv
              subst hh
              clear hst HAO
              go_wp2_with (first | (refine wpList_load_any 34 _ rfl rfl _ 0 rfl (xL c r seq u.held rxs) _ (HS.out.blk 1 rfl).range Try.underlying34 rfl (by kernel_rfl) ?_) | (refine wpList_store_sep HS.out 4 rfl (xL c r seq u.held rxs) 34 _ _ rfl rfl rfl rfl rfl (by kernel_rfl) (hoX ⟨u.held, rxs⟩) (fun wX hX _ => ?_); have HSX := Lib.hid hX; clear hX))
              have hS := HSX.out
              simp only [List.set_cons_zero, List.set_cons_succ] at hS
              have x8 : wX.cell? ⟨XB, 8, none⟩ = some (.int .i64 u.held) := (hS.blk 4 rfl).cell 8
              have x8l := (hS.blk 4 rfl).lt
              have HS := Lib.hid hS.drew; clear hS HSX
              refine wp_region_fr [(1, [0, 2, 3]), (2, [1]), (0, [4])] [] (by kernel_rfl) (by kernel_rfl) ?_
              simp only [theOps, nthOp, List.map_cons, List.map_nil, Array.getD_eq_getD_getElem?, List.getElem?_toArray, List.getElem?_cons_succ, List.getElem?_cons_zero, Option.getD_some]
              refine wpSegs_soft ?_
              repeat (first | go_big_quiet_step (fail) | quiet_step (fail))
              refine wpQuiet_nil ?_
              refine wpSegs_keep ?_
              go_wp2_with fail
              refine (held_any _ b cs hsz r seq u (HS.out.blk 5 rfl)).mono ?_
              rintro e w10 ⟨rfl, hf⟩
              have HF := Lib.hid hf
              have HS := Lib.hid (HS.out.fr0 hf); clear hf x8 x8l
              go_wp2_with fail
              refine ⟨⟨⟨_, (by exact HF.out)⟩, rfl⟩, ?_⟩
              repeat ((first | refine wpSegs_soft ?_ | refine wpSegs_pure ?_ | refine wpSegs_here ?_); (repeat (first | go_big_quiet_step (fail) | quiet_step (fail))); refine wpQuiet_nil ?_)
              refine wpSegs_done ?_
              go_wp2_with fail
              go_roundg (L.length - (i + 1))
              case measure => omega
              case rel => exact ⟨i + 1, k, ⟨u.held, rxs⟩, u, by omega, hk2, rfl, rfl, by go_num, HRR.out, HS.out.sub [4, 5, 6] rfl (by decide)⟩
            · go_wp2_with (first | (refine wpList_load_any 43 _ rfl rfl _ 0 rfl (enP o) _ (HS.out.blk 2 rfl).range Try.underlying43 rfl (by kernel_rfl) ?_) | (refine wpList_load_any 43 _ rfl rfl _ 2 rfl (enP o) _ (tape_ask (HS.out.blk 0 rfl)) Try.underlying43 rfl (by kernel_rfl) ?_))
              refine (vend_any _ b cs hsz r seq u (HS.out.blk 5 rfl)).mono ?_
              rintro e w9 ⟨rfl, hf⟩
              have HS := Lib.hid (HS.out.fr0 hf); clear hf b8 b8l HNE
              have HUS := Lib.hid (HAS.out (by first | rfl | trivial))
              by_cases hke : k = n
              · have hkq : ((k : Int) == (n : Int)) = true := by simp [hke]
                go_wp2_with fail
                go_ret
                exact ⟨rfl, HS.out.fr⟩
              · have hkq : ((k : Int) == (n : Int)) = false := by simp; omega
                have hkl : (k : Int) < (n : Int) := by omega
                have hkO : k < O.length := by omega
                obtain ⟨z, rfl, hzw, hc0, hc1⟩ := hO.at (i := k) hkO
                generalize ho3 : O[k]'hkO = o3 at hc0 hc1
                obtain ⟨h1, h2⟩ := HSN.out o3 hkO ho3 HUS.out
                obtain ⟨ov, os, ook⟩ := o3
                have y0 := HS.out.fr.cell (hc0 _ rfl) (by simp)
                have y1 := HS.out.fr.cell (hc1 0 _ rfl) (by simp)
                have y2 := HS.out.fr.cell (hc1 1 _ rfl) (by simp)
                simp only [Nat.zero_add, Nat.reduceAdd] at y1 y2
                have H1 := Lib.hid h1; have H2 := Lib.hid h2
                clear hc0 hc1 ho3 h1 h2
                go_wp2_with fail
                refine (HS.out.call 5 rfl (fun R hR => vtell_any b cs hsz r seq u ov os ook hR)).mono ?_
                rintro e w10 ⟨rfl, hS⟩
                simp only [List.set_cons_zero, List.set_cons_succ] at hS
                have HS := Lib.hid hS; clear hS y0 y1 y2
                go_wp2_with fail
                go_roundg (n + 1 - (k + 1))
                case measure => omega
                case rel => exact ⟨k + 1, rfl, by omega, by omega, by go_num, H1.out, by rw [H2.out]; exact HS.out.sub [3, 4, 5, 6] rfl (by decide)⟩
          · go_wp2_with fail
            have hf := Fr.alloc HF.out (.cells [.int .i64 0, .int .i64 0, .int .i64 0, .int .i64 0, .int .u64 0, .int .u64 0, .int .i64 0, .int .u64 0, .int .i64 0, .bool false].toArray 34)
            have hS := HS.out.new 34 [.int .i64 0, .int .i64 0, .int .i64 0, .int .i64 0, .int .u64 0, .int .u64 0, .int .i64 0, .int .u64 0, .int .i64 0, .bool false]
            have HF := Lib.hid hf; have HS := Lib.hid hS; clear hf hS
            refine ⟨⟨⟨_, (by exact HF.out)⟩, rfl⟩, ?_⟩
            generalize World.alloc _ _ = w7 at HF HS ⊢
            generalize w8.heap.size = VB at HS ⊢
            refine step_keep (N := 9) 7 (by kernel_rfl) rfl ?_
            go_wp2_with fail
            refine (HO4.out _ HS.out.fr).mono ?_
            rintro e w6 ⟨rfl, hf⟩
            have HF := Lib.hid (HF.out.trans hf)
            have HS := Lib.hid (HS.out.fr0 hf); clear hf
            go_wp2_with fail
            refine ⟨⟨⟨_, (by exact HF.out)⟩, rfl⟩, ?_⟩
            refine step_pures (N := 4) [8, 9, 10, 11, 12] (by kernel_rfl) ?_
            simp only [theOps, nthOp, List.map_cons, List.map_nil, Array.getD_eq_getD_getElem?, List.getElem?_toArray, List.getElem?_cons_succ, List.getElem?_cons_zero, Option.getD_some]
            repeat (first | go_big_quiet_step (fail) | quiet_step (fail))
            refine wpQuiet_nil ?_
            have HS := Lib.hid (HS.out.pull 1 rfl)
            clear HF HO4
            refine step_hard (N := 3) 15 (by kernel_rfl) rfl ?_
            refine wpList_store_sep HS.out 1 rfl (xL c r seq rxh rxs) 34 _ _ rfl rfl rfl rfl rfl (by kernel_rfl) (hoX ⟨rxh, rxs⟩) (fun wT hT _ => ?_)
            have HS := Lib.hid hT; clear hT
            go_wp2_with fail
            refine step_hard (N := 2) 16 (by kernel_rfl) rfl ?_
            refine wpList_store_sep HS.out 0 rfl (tapeL (.slice sa (k - f) (oc - f)) ⟨rj, o, okb⟩) 47 _ _ rfl rfl rfl rfl rfl (by kernel_rfl) (tapeL_one _ _ _ _) (fun wU hU _ => ?_)
            have HS := Lib.hid hU; clear hU
            simp only [List.set_cons_zero, List.set_cons_succ] at HS
            go_wp2_with fail
            refine step_pures (N := 0) [17, 18] (by kernel_rfl) ?_
            simp only [theOps, nthOp, List.map_cons, List.map_nil, Array.getD_eq_getD_getElem?, List.getElem?_toArray, List.getElem?_cons_succ, List.getElem?_cons_zero, Option.getD_some]
            repeat (first | go_big_quiet_step (fail) | quiet_step (fail))
            refine wpQuiet_nil ?_
            refine step_done rfl ?_
            have b8 := (HS.out.blk 0 rfl).cell 8
            have b8l := (HS.out.blk 0 rfl).lt
            simp only [tapeL, List.getElem?_cons_zero, List.getElem?_cons_succ] at b8
            have HNE := fun w => neq_op_self w o
            cases okb
            · go_wp2_with (first | (refine wpList_load_any 43 _ rfl rfl _ 0 rfl (enP o) _ (HS.out.blk 2 rfl).range Try.underlying43 rfl (by kernel_rfl) ?_) | (refine wpList_load_any 43 _ rfl rfl _ 2 rfl (enP o) _ (tape_ask (HS.out.blk 0 rfl)) Try.underlying43 rfl (by kernel_rfl) ?_))
              refine (vend_any _ b cs hsz r seq u (HS.out.blk 5 rfl)).mono ?_
              rintro e w9 ⟨rfl, hf⟩
              have HS := Lib.hid (HS.out.fr0 hf); clear hf b8 b8l HNE
              obtain ⟨hv, hh, hst⟩ := HAO.out (by first | rfl | trivial)
              try dsimp only at hv hh hst
              have HRR := Lib.hid (HRO.out (by first | rfl | trivial))
              subst hv
              subst hh
              clear hst HAO
              go_wp2_with (first | (refine wpList_load_any 34 _ rfl rfl _ 0 rfl (xL c r seq u.held rxs) _ (HS.out.blk 1 rfl).range Try.underlying34 rfl (by kernel_rfl) ?_) | (refine wpList_store_sep HS.out 4 rfl (xL c r seq u.held rxs) 34 _ _ rfl rfl rfl rfl rfl (by kernel_rfl) (hoX ⟨u.held, rxs⟩) (fun wX hX _ => ?_); have HSX := Lib.hid hX; clear hX))
              have hS := HSX.out
              simp only [List.set_cons_zero, List.set_cons_succ] at hS
              have x8 : wX.cell? ⟨XB, 8, none⟩ = some (.int .i64 u.held) := (hS.blk 4 rfl).cell 8
              have x8l := (hS.blk 4 rfl).lt
              have HS := Lib.hid hS.drew; clear hS HSX
              refine wp_region_fr [(1, [0, 2, 3]), (2, [1]), (0, [4])] [] (by kernel_rfl) (by kernel_rfl) ?_
              simp only [theOps, nthOp, List.map_cons, List.map_nil, Array.getD_eq_getD_getElem?, List.getElem?_toArray, List.getElem?_cons_succ, List.getElem?_cons_zero, Option.getD_some]
              refine wpSegs_soft ?_
              repeat (first | go_big_quiet_step (fail) | quiet_step (fail))
              refine wpQuiet_nil ?_
              refine wpSegs_keep ?_
              go_wp2_with fail
              refine (held_any _ b cs hsz r seq u (HS.out.blk 5 rfl)).mono ?_
              rintro e w10 ⟨rfl, hf⟩
              have HF := Lib.hid hf
              have HS := Lib.hid (HS.out.fr0 hf); clear hf x8 x8l
              go_wp2_with fail
              refine ⟨⟨⟨_, (by exact HF.out)⟩, rfl⟩, ?_⟩
              repeat ((first | refine wpSegs_soft ?_ | refine wpSegs_pure ?_ | refine wpSegs_here ?_); (repeat (first | go_big_quiet_step (fail) | quiet_step (fail))); refine wpQuiet_nil ?_)
              refine wpSegs_done ?_
              go_wp2_with fail
              go_roundg (L.length - (i + 1))
              case measure => omega
              case rel => exact ⟨i + 1, k, ⟨u.held, rxs⟩, u, by omega, hk2, rfl, rfl, by go_num, HRR.out, HS.out.sub [4, 5, 6] rfl (by decide)⟩
            · go_wp2_with (first | (refine wpList_load_any 43 _ rfl rfl _ 0 rfl (enP o) _ (HS.out.blk 2 rfl).range Try.underlying43 rfl (by kernel_rfl) ?_) | (refine wpList_load_any 43 _ rfl rfl _ 2 rfl (enP o) _ (tape_ask (HS.out.blk 0 rfl)) Try.underlying43 rfl (by kernel_rfl) ?_))
              refine (vend_any _ b cs hsz r seq u (HS.out.blk 5 rfl)).mono ?_
              rintro e w9 ⟨rfl, hf⟩
              have HS := Lib.hid (HS.out.fr0 hf); clear hf b8 b8l HNE
              have HUS := Lib.hid (HAS.out (by first | rfl | trivial))
              by_cases hke : k = n
              · have hkq : ((k : Int) == (n : Int)) = true := by simp [hke]
                go_wp2_with fail
                go_ret
                exact ⟨rfl, HS.out.fr⟩
              · have hkq : ((k : Int) == (n : Int)) = false := by simp; omega
                have hkl : (k : Int) < (n : Int) := by omega
                have hkO : k < O.length := by omega
                obtain ⟨z, rfl, hzw, hc0, hc1⟩ := hO.at (i := k) hkO
                generalize ho3 : O[k]'hkO = o3 at hc0 hc1
                obtain ⟨h1, h2⟩ := HSN.out o3 hkO ho3 HUS.out
                obtain ⟨ov, os, ook⟩ := o3
                have y0 := HS.out.fr.cell (hc0 _ rfl) (by simp)
                have y1 := HS.out.fr.cell (hc1 0 _ rfl) (by simp)
                have y2 := HS.out.fr.cell (hc1 1 _ rfl) (by simp)
                simp only [Nat.zero_add, Nat.reduceAdd] at y1 y2
                have H1 := Lib.hid h1; have H2 := Lib.hid h2
                clear hc0 hc1 ho3 h1 h2
                go_wp2_with fail
                refine (HS.out.call 5 rfl (fun R hR => vtell_any b cs hsz r seq u ov os ook hR)).mono ?_
                rintro e w10 ⟨rfl, hS⟩
                simp only [List.set_cons_zero, List.set_cons_succ] at hS
                have HS := Lib.hid hS; clear hS y0 y1 y2
                go_wp2_with fail
                go_roundg (n + 1 - (k + 1))
                case measure => omega
                case rel => exact ⟨k + 1, rfl, by omega, by omega, by go_num, H1.out, by rw [H2.out]; exact HS.out.sub [3, 4, 5, 6] rfl (by decide)⟩
    · obtain rfl : i = L.length := by omega
      have HS := Lib.hid hS; clear hS
      go_wp2_with fail
      go_ret
      exact ⟨rfl, HS.out.fr⟩
theorem vplays_any (w : World) (c : Cfg) (who seq : Int) (a oa : Option Addr) (m lc n oc : Nat) (L : List Rq) (O : List O3) (hL : ArgE enR 3 w (.slice a m lc) L) (hO : ArgE enO 3 w (.slice oa n oc) O) (hLm : m = L.length) (hOn : n = O.length) :
    Calls Try.prog 3 #[cfgV c, .int .i64 who, .int .u64 seq, .slice a m lc, .slice oa n oc] w fun e w' => e = .returned (.bool true) ∧ Fr [] w w' := by
  by_cases h0 : right c = true
  · by_cases h1 : m > 20
    · exact vplays_s1 w c who seq a oa m lc n oc h0 (by simp; omega)
    · by_cases h2 : n > 60
      · exact vplays_s2 w c who seq a oa m lc n oc h0 (by simp; omega) (by simp; omega)
      · exact vplays_good w c (by unfold right at h0; simpa using h0) who seq a oa m lc n oc L O hLm.symm hL (by omega) hO hOn.symm (by omega) h0
  · exact vplays_s0 w c who seq a oa m lc n oc (by simpa using h0)
theorem vplays_row (a b d f g l who seq : Int) (v v' : Value) (L : List Rq) (O : List O3) (w : World) (hL : ArgE enR 3 w v L) (hO : ArgG goodO enO 3 w v' O) (_ : L.length ≤ maxLen) (_ : O.length ≤ maxLen) :
    Calls Try.prog 3 #[.agg #[.int .i64 a, .int .i64 b, .int .i64 d, .int .i64 f, .int .u64 g, .int .u64 l], .int .i64 who, .int .u64 seq, v, v'] w fun e w' => e = .returned (.bool true) ∧ Fr [] w w' := by
  obtain ⟨a1, c1, rfl, _⟩ := id hL
  obtain ⟨a2, c2, rfl, _⟩ := id hO.1
  exact vplays_any w ⟨a, b, d, f, g, l⟩ who seq a1 a2 _ c1 _ c2 L O hL hO.1 rfl rfl
end Go.Proofs.Ytccioehckfdjdaa
