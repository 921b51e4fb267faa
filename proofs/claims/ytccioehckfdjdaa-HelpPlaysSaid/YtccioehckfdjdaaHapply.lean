/- The walk of the document's Apply (chapter 12). -/
import Derived.Test.YtccioehckfdjdaaHref
import Derived.Test.YtccioehckfdjdaaArgO
set_option linter.unusedSimpArgs false
set_option linter.unusedVariables false
namespace Go.Proofs.Ytccioehckfdjdaa
open Go.RowKit Go.Tum Go.Tum.Y Go.Tum.Sc
set_option maxRecDepth 100000 in
set_option maxHeartbeats 32000000 in
theorem rapply_any (w : World) (c : Cfg) (h : Ok c) (who owner seq : Int) (ea : Option Addr) (m ec : Nat) (E : List (Int × Int)) (hEm : E.length = m) (hm5 : m ≤ 5000) (hE : ArgE enE 2 w (.slice ea m ec) E) (oa : Option Addr) (n oc : Nat) (t : Tp) (hn : n ≤ 100000) (ht : t.at_ ≤ 20000) (l : List O3) (hl : l.length = n) (hO : ArgE enO 3 w (.slice oa n oc) l) (FIN : Tp) (hFIN : H.applyG c who owner seq l E (-1) t = FIN) :
    Calls Try.prog 62 #[cfgV c, .int .i64 who, .int .i64 owner, .int .u64 seq, .slice ea m ec, .agg (tapeL (.slice oa n oc) t).toArray] w fun e w' => e = .returned (.agg (tapeL (.slice oa n oc) FIN).toArray) ∧ Fr [] w w' := by
  have HA3 : Hid (∀ w, Calls Try.prog 94 #[.agg (cfgL c).toArray, .int .i64 3, .int .i64 who, .int .i64 0] w fun e w' => e = .returned (.int .i64 (at_ c 3 who 0)) ∧ Fr [] w w') := fun w => rat_any w c h 3 who 0
  have HA4 : Hid (∀ w, Calls Try.prog 94 #[.agg (cfgL c).toArray, .int .i64 4, .int .i64 owner, .int .i64 0] w fun e w' => e = .returned (.int .i64 (at_ c 4 owner 0)) ∧ Fr [] w w') := fun w => rat_any w c h 4 owner 0
  have HF7 : Hid (∀ w, Calls Try.prog 81 #[.agg (cfgL c).toArray, .int .i64 7] w fun e w' => e = .returned (.int .i64 (fTag c)) ∧ Fr [] w w') := fun w => rfrom_7 w c h
  have HSZ : Hid (∀ w, Calls Try.prog 82 #[.agg (cfgL c).toArray] w fun e w' => e = .returned (.int .i64 (size c)) ∧ Fr [] w w') := fun w => rsize_any w c h
  have HBL : Hid (∀ w (a : Int), 0 ≤ a → a ≤ 200000 → Calls Try.prog 117 #[.agg (cfgL c).toArray, .int .i64 a] w fun e w' => e = .returned (.int .i64 (H.blockOf c a)) ∧ Fr [] w w') := fun w a h0 h1 => rblock_any w c h a h0 h1
  have HLDA : Hid (∀ (tt : Tp) (p : Int) (w' : World), tt.at_ ≤ 200000 → Fr [] w w' → Calls Try.prog 103 #[.agg (tapeL (.slice oa n oc) tt).toArray, .int .i64 p] w' fun e w'' => e = .returned (.tuple #[.agg (tapeL (.slice oa n oc) (tt.step n (H.ldOp p))).toArray, .agg [Value.int .u64 (tt.out l).v, .int .u64 (tt.out l).s].toArray]) ∧ Fr [] w' w'') := fun tt p w' htt f => hload_any w' oa n oc tt p hn htt l hl (hO.fr f)
  have HSTA : Hid (∀ (tt : Tp) (p nv ns : Int) (w' : World), tt.at_ ≤ 200000 → Fr [] w w' → Calls Try.prog 118 #[.agg (tapeL (.slice oa n oc) tt).toArray, .int .i64 p, .agg #[.int .u64 nv, .int .u64 ns]] w' fun e w'' => e = .returned (.agg (tapeL (.slice oa n oc) (tt.step n ⟨1, p, 0, 0, nv, ns⟩)).toArray) ∧ Fr [] w' w'') := fun tt p nv ns w' htt f => store_any w' oa n oc tt p nv ns hn htt l hl (hO.fr f)
  have HDOA : Hid (∀ (tt : Tp) (op : P6) (w' : World), tt.at_ ≤ 200000 → Fr [] w w' → Calls Try.prog 120 #[.agg (tapeL (.slice oa n oc) tt).toArray, .agg #[.int .i64 op.k, .int .i64 op.a, .int .u64 op.ov, .int .u64 op.os, .int .u64 op.nv, .int .u64 op.ns]] w' fun e w'' => e = .returned (.tuple #[.agg (tapeL (.slice oa n oc) (tt.step n op)).toArray, .agg (enO (tt.out l)).toArray]) ∧ Fr [] w' w'') := fun tt op w' htt f => do_any w' oa n oc tt op hn htt l hl (hO.fr f)
  have HOPA : Hid (∀ (tt : Tp) (w' : World), tt.at_ ≤ 200000 → Fr [] w w' → Calls Try.prog 119 #[.agg (cfgL c).toArray, .int .i64 owner, .int .u64 seq, .agg (tapeL (.slice oa n oc) tt).toArray] w' fun e w'' => e = .returned (.tuple #[.agg (tapeL (.slice oa n oc) (tt.step n (H.ldOp (at_ c 4 owner 0)))).toArray, .bool (H.isOpen seq (tt.out l))]) ∧ Fr [] w' w'') := fun tt w' htt f => ropen_any w' c h owner seq oa n oc tt hn htt l hl (hO.fr f)
  have HTF := Lib.hid (fun tt => tft oa n oc tt)
  have HSA := Lib.hid (fun (t : Tp) (op : P6) => tstep_at n t op)
  have hft := (bds h).tag
  have hsb := size_bd h
  have HWD := Lib.hid (fun (a : Int) (h0 : fTag c ≤ a) (h1 : a < size c) => show -1 ≤ H.blockOf c a ∧ H.blockOf c a ≤ 100000 from by unfold H.blockOf; have hfb : 0 ≤ fWord c ∧ fWord c ≤ 18100 := fromP_bd h 16; split <;> omega)
  have HAP : Hid (∀ (e : Int × Int) (r : List (Int × Int)) (held : Int) (t : Tp), H.applyG c who owner seq l (e :: r) held t = if e.1 < fTag c ∨ size c ≤ e.1 then H.applyG c who owner seq l r held t
    else if 0 ≤ H.blockOf c e.1 ∧ H.blockOf c e.1 ≠ held then
      (if (H.name1 c who owner l (H.blockOf c e.1) t).need = true ∨ H.nameIs c who seq l (H.blockOf c e.1) t = false then H.name1 c who owner l (H.blockOf c e.1) t
       else if (H.turn1 seq l e (H.name1 c who owner l (H.blockOf c e.1) t)).need then H.turn1 seq l e (H.name1 c who owner l (H.blockOf c e.1) t)
       else H.applyG c who owner seq l r (H.blockOf c e.1) (H.turn1 seq l e (H.name1 c who owner l (H.blockOf c e.1) t)))
    else if (H.turn1 seq l e t).need then H.turn1 seq l e t else H.applyG c who owner seq l r held (H.turn1 seq l e t)) := fun _ _ _ _ => rfl
  have HAN : Hid (∀ (held : Int) (t : Tp), H.applyG c who owner seq l [] held t = t.step n ⟨2, at_ c 4 owner 0, 1, seq, 0, seq⟩) := fun _ _ => by rw [← hl]; rfl
  have HN1 : Hid (∀ (b : Int) (t : Tp), H.name1 c who owner l b t = (t.step n ⟨1, at_ c 3 who 0, 0, 0, H.nameOf b, 0⟩).step n (H.ldOp (at_ c 4 owner 0))) := fun _ _ => by rw [← hl]; rfl
  have HN2 : Hid (∀ (b : Int) (t : Tp), H.nameIs c who seq l b t = H.isOpen seq ((t.step n ⟨1, at_ c 3 who 0, 0, 0, H.nameOf b, 0⟩).out l)) := fun _ _ => by rw [← hl]; rfl
  generalize at_ c 3 who 0 = p3 at *
  generalize at_ c 4 owner 0 = p4 at *
  have hsz6 : (cfgL c).length = 6 := rfl
  have hS := (((Sep.nil (Fr.refl [] w)).new 24 (cfgL c)).new 47 (tapeL (.slice oa n oc) t)).new 47 zT
  simp only [World.size_alloc] at hS
  unfold zT at hS
  have HS := Lib.hid hS; clear hS
  rw [show cfgV c = .agg (cfgL c).toArray from rfl] at *
  generalize cfgL c = cl at *
  have HFIN := Lib.hid hFIN
  clear hFIN hO
  go_enter Try.func62, Try.ntmps62
  go_wp2_with fail
  go_loopg [13, 14] m (fun gg vh vi wr => ∃ (k : Nat) (held : Int) (tk : Tp), gg + k = m ∧ vh = .int .i64 held ∧ vi = .int .i64 (k : Int) ∧ H.applyG c who owner seq l (E.drop k) held tk = FIN ∧ tk.at_ ≤ 20000 + 4 * k ∧ Sep w wr [blkT (w.heap.size + 1 + 1) 47 [.slice none 0 0, .int .i64 0, .int .i64 0, .int .i64 0, .int .u64 0, .int .u64 0, .int .u64 0, .int .u64 0, .bool false], blkT (w.heap.size + 1) 47 (tapeL (.slice oa n oc) tk), blkT w.heap.size 24 cl])
  case atStart => exact ⟨0, -1, t, by omega, rfl, rfl, HFIN.out, by omega, HS.out⟩
  case round =>
    clear HS HFIN
    obtain ⟨k, held, tk, hgk, rfl, rfl, hEQ, hat, hS⟩ := hrel
    have HS := Lib.hid hS; clear hS
    by_cases hk : k < m
    · have hki : (k : Int) < (m : Int) := by omega
      obtain ⟨x, rfl, hxw, c0, c1⟩ := (hE.fr HS.out.fr).at (i := k) (by omega)
      rw [List.drop_eq_getElem_cons (show k < E.length by omega), HAP.out] at hEQ
      obtain ⟨ee, hee⟩ : ∃ ee, E[k]'(by omega) = ee := ⟨_, rfl⟩
      rw [hee] at hEQ c0 c1
      obtain ⟨E1, E2⟩ := ee
      have HEE := Lib.hid hee; clear hee
      have y0 := c0 _ rfl
      clear c0 c1
      dsimp only at hEQ
      by_cases h1 : E1 < fTag c
      · rw [if_pos (.inl h1)] at hEQ
        have HNX := Lib.hid hEQ; clear hEQ
        have d1 : decide (E1 < fTag c) = true := by simpa using h1
        generalize fTag c = ft at *
        go_wp2_with (refine wpList_load_any 24 _ rfl rfl _ 0 rfl cl _ (HS.out.blk 2 rfl).range Try.underlying24 rfl (by rw [hsz6]; kernel_rfl) ?_)
        refine (HF7.out _).mono ?_
        rintro e w3 ⟨rfl, hf⟩
        have HS := Lib.hid (HS.out.fr0 hf); clear hf y0
        go_wp2_with fail
        go_roundg (m - (k + 1))
        case measure => omega
        case rel => exact ⟨k + 1, held, tk, by omega, rfl, by go_num, HNX.out, by omega, HS.out⟩
      have d1 : decide (E1 < fTag c) = false := by simpa using h1
      by_cases h2 : size c ≤ E1
      · rw [if_pos (.inr h2)] at hEQ
        have HNX := Lib.hid hEQ; clear hEQ
        have d2 : decide (E1 ≥ size c) = true := by simpa using h2
        generalize fTag c = ft at *
        generalize size c = sz at *
        go_wp2_with (refine wpList_load_any 24 _ rfl rfl _ 0 rfl cl _ (HS.out.blk 2 rfl).range Try.underlying24 rfl (by rw [hsz6]; kernel_rfl) ?_)
        refine (HF7.out _).mono ?_
        rintro e w3 ⟨rfl, hf⟩
        have HS := Lib.hid (HS.out.fr0 hf); clear hf y0
        go_wp2_with (refine wpList_load_any 24 _ rfl rfl _ 0 rfl cl _ (HS.out.blk 2 rfl).range Try.underlying24 rfl (by rw [hsz6]; kernel_rfl) ?_)
        refine (HSZ.out _).mono ?_
        rintro e w3 ⟨rfl, hf⟩
        have HS := Lib.hid (HS.out.fr0 hf); clear hf
        go_wp2_with fail
        go_roundg (m - (k + 1))
        case measure => omega
        case rel => exact ⟨k + 1, held, tk, by omega, rfl, by go_num, HNX.out, by omega, HS.out⟩
      have d2 : decide (E1 ≥ size c) = false := by simp; omega
      rw [if_neg (by omega)] at hEQ
      have hbb := HWD.out E1 (by omega) (by omega)
      have HBE := Lib.hid (fun w => HBL.out w E1 (by omega) (by omega))
      generalize H.blockOf c E1 = bl at *
      have HEQ := Lib.hid hEQ; clear hEQ
      generalize fTag c = ft at *
      generalize size c = sz at *
      go_wp2_with (refine wpList_load_any 24 _ rfl rfl _ 0 rfl cl _ (HS.out.blk 2 rfl).range Try.underlying24 rfl (by rw [hsz6]; kernel_rfl) ?_)
      refine (HF7.out _).mono ?_
      rintro e w3 ⟨rfl, hf⟩
      have HS := Lib.hid (HS.out.fr0 hf); clear hf y0
      go_wp2_with (refine wpList_load_any 24 _ rfl rfl _ 0 rfl cl _ (HS.out.blk 2 rfl).range Try.underlying24 rfl (by rw [hsz6]; kernel_rfl) ?_)
      refine (HSZ.out _).mono ?_
      rintro e w3 ⟨rfl, hf⟩
      have HS := Lib.hid (HS.out.fr0 hf); clear hf
      go_wp2_with (refine wpList_load_any 24 _ rfl rfl _ 0 rfl cl _ (HS.out.blk 2 rfl).range Try.underlying24 rfl (by rw [hsz6]; kernel_rfl) ?_)
      refine (HBE.out _).mono ?_
      rintro e w3 ⟨rfl, hf⟩
      have HS := Lib.hid (HS.out.fr0 hf); clear hf HBE d1 d2
      by_cases hb : 0 ≤ bl ∧ bl ≠ held
      · obtain ⟨hb0, hb1⟩ := hb
        have hq := HEQ.out
        rw [if_pos ⟨hb0, hb1⟩] at hq
        have hnm : H.nameOf bl = bl + 1 := by unfold H.nameOf; rw [IntKind.wrap_u64, IntKind.wrap_u64]; omega
        simp only [HN1.out, HN2.out, hnm] at hq
        clear hnm
        have db0 : decide (bl ≥ 0) = true := by simpa using hb0
        have db1 : (bl != held) = true := by simpa using hb1
        have hat2 := HSA.out tk ⟨1, p3, 0, 0, bl + 1, 0⟩
        have hat3 := HSA.out (tk.step n ⟨1, p3, 0, 0, bl + 1, 0⟩) (H.ldOp p4)
        have HST2 : Hid (∀ w', Fr [] w w' → _) := fun w' f => HSTA.out tk p3 (bl + 1) 0 w' (by omega) f
        have HOP3 : Hid (∀ w', Fr [] w w' → _) := fun w' f => HOPA.out (tk.step n ⟨1, p3, 0, 0, bl + 1, 0⟩) w' (by omega) f
        have T0 := Lib.hid (HTF.out tk)
        have T2 := Lib.hid (HTF.out (tk.step n ⟨1, p3, 0, 0, bl + 1, 0⟩))
        have T3 := Lib.hid (HTF.out ((tk.step n ⟨1, p3, 0, 0, bl + 1, 0⟩).step n (H.ldOp p4)))
        generalize H.isOpen seq ((tk.step n ⟨1, p3, 0, 0, bl + 1, 0⟩).out l) = is at hq HOP3
        generalize tk.step n ⟨1, p3, 0, 0, bl + 1, 0⟩ = t2 at hq hat2 hat3 HST2 HOP3 T2 T3
        generalize t2.step n (H.ldOp p4) = t3 at hq hat3 HOP3 T3
        obtain ⟨tlk, htlk⟩ : ∃ x, x = tapeL (.slice oa n oc) tk := ⟨_, rfl⟩
        obtain ⟨tl2, htl2⟩ : ∃ x, x = tapeL (.slice oa n oc) t2 := ⟨_, rfl⟩
        obtain ⟨tl3, htl3⟩ : ∃ x, x = tapeL (.slice oa n oc) t3 := ⟨_, rfl⟩
        have hs2 := HS.out
        rw [← htlk] at hs2 HST2 T0
        rw [← htl2] at HST2 T2 HOP3
        rw [← htl3] at T3 HOP3
        have HS := Lib.hid hs2
        have HT3 := Lib.hid htl3
        have HQ0 := Lib.hid hq
        clear hs2 htl3 htl2 htlk hq HEQ
        have hlt := T0.out.len
        have hl2 := T2.out.len
        have hl3 := T3.out.len
        have ho3 := T3.out.one
        go_wp2_with fail
        have hmt := (HS.out.blk 1 rfl).drew
        have hmc := (HS.out.blk 2 rfl).drew
        have HS := Lib.hid HS.out.drew
        refine wp_region_fr [(1, [0, 1, 2, 4, 5, 6, 7]), (2, [3]), (3, [8]), (3, [9])] [] (by kernel_rfl) (by kernel_rfl) ?_
        simp only [theOps, nthOp, List.map_cons, List.map_nil, Array.getD_eq_getD_getElem?, List.getElem?_toArray, List.getElem?_cons_succ, List.getElem?_cons_zero, Option.getD_some]
        refine wpSegs_soft ?_
        refine wpQuiet_load_mid 47 _ (w.heap.size + 1) 0 tlk _ rfl rfl rfl (rangeAt_after hmt (by simp)) Try.underlying47 rfl (by rw [hlt]; kernel_rfl) ?_
        simp only [Act.put, List.setIfInBounds_toArray, List.set_cons_zero, List.set_cons_succ]
        refine wpQuiet_load_mid 24 _ w.heap.size 0 cl _ rfl rfl rfl (rangeAt_after hmc (by simp)) Try.underlying24 rfl (by rw [hsz6]; kernel_rfl) ?_
        simp only [Act.put, List.setIfInBounds_toArray, List.set_cons_zero, List.set_cons_succ]
        repeat (first | go_big_quiet_step (fail) | quiet_step (fail))
        refine wpQuiet_nil ?_
        refine wpSegs_keep ?_
        go_wp2_with fail
        refine (HA3.out _).mono ?_
        rintro e w4 ⟨rfl, hf⟩
        have HF := Lib.hid hf
        have HS := Lib.hid (HS.out.fr0 hf); clear hf
        go_wp2_with fail
        refine ⟨⟨⟨_, (by exact HF.out)⟩, rfl⟩, ?_⟩
        refine wpSegs_hard ?_
        go_wp2_with fail
        refine (HST2.out _ HS.out.fr).mono ?_
        rintro e w5 ⟨rfl, hf⟩
        have HS := Lib.hid (HS.out.fr0 hf); clear hf
        go_wp2_with fail
        refine wpSegs_hard ?_
        refine wpList_store_sep HS.out 1 rfl tl2 47 _ _ rfl rfl rfl rfl (by rw [hl2, hlt]) (by rw [hl2]; kernel_rfl) T2.out.one (fun wD hD _ => ?_)
        have HS := Lib.hid hD; clear hD hmt hmc HF
        go_wp2_with fail
        refine wpSegs_done ?_
        go_wp2_with (first | (refine wpList_load_any 24 _ rfl rfl _ 0 rfl cl _ (HS.out.blk 2 rfl).range Try.underlying24 rfl (by rw [hsz6]; kernel_rfl) ?_) | (refine wpList_load_any 47 _ rfl rfl _ 0 rfl tl2 _ (HS.out.blk 1 rfl).range Try.underlying47 rfl (by rw [hl2]; kernel_rfl) ?_))
        refine (HOP3.out _ HS.out.fr).mono ?_
        rintro e w6 ⟨rfl, hf⟩
        have HS : Hid (Sep w _ [blkT _ _ _, blkT _ _ _, blkT _ _ tl2, blkT _ _ _]) := Lib.hid ((HS.out.fr0 hf).new 47 [.slice none 0 0, .int .i64 0, .int .i64 0, .int .i64 0, .int .u64 0, .int .u64 0, .int .u64 0, .int .u64 0, .bool false])
        clear hf
        by_cases hret : t3.need = true ∨ is = false
        · have hfin : t3 = FIN := by have := HQ0.out; rw [if_pos hret] at this; exact this
          have HFI := Lib.hid (show tl3 = tapeL (.slice oa n oc) FIN by rw [HT3.out, hfin])
          clear hfin HQ0
          rcases hret with hnd | rfl
          · have HNV := Lib.hid hnd; clear hnd
            go_wp2_with (first | (refine wpList_store_sep HS.out 0 rfl tl3 47 _ _ rfl rfl rfl rfl (by rw [hl3]; rfl) (by rw [hl3]; kernel_rfl) ho3 (fun wA hA _ => ?_); have HA := Lib.hid hA; clear hA) | (refine wpList_load_any 47 _ rfl rfl _ 0 rfl tl3 _ (HA.out.blk 0 rfl).range Try.underlying47 rfl (by rw [hl3]; kernel_rfl) ?_) | (refine wpList_store_sep HA.out 2 rfl tl3 47 _ _ rfl rfl rfl rfl (by rw [hl3, hl2]) (by rw [hl3]; kernel_rfl) ho3 (fun wB hB _ => ?_); have n8 := ((hB.blk 2 rfl).cell 8).trans T3.out.need; have n8l := (hB.blk 2 rfl).lt; rw [HNV.out] at n8; have HB := Lib.hid hB.tail; clear hB) | (refine wpList_load_any 47 _ rfl rfl _ 0 rfl tl3 _ (HB.out.blk 1 rfl).range Try.underlying47 rfl (by rw [hl3]; kernel_rfl) ?_) | (refine wpList_store_sep HB.out 0 rfl tl3 47 _ _ rfl rfl rfl rfl (by rw [hl3]; rfl) (by rw [hl3]; kernel_rfl) ho3 (fun wR hR _ => ?_); have HX := Lib.hid hR; clear hR))
            exact bodyPost_ret (v := .agg tl3.toArray) (res_cell Try.results62 rfl (HX.out.blk 0 rfl).range Try.underlying47 rfl (by rw [hl3]; kernel_rfl)) rfl ⟨by rw [HFI.out], HX.out.fr⟩
          · cases hnv : t3.need
            · have HNV := Lib.hid hnv; clear hnv
              go_wp2_with (first | (refine wpList_store_sep HS.out 0 rfl tl3 47 _ _ rfl rfl rfl rfl (by rw [hl3]; rfl) (by rw [hl3]; kernel_rfl) ho3 (fun wA hA _ => ?_); have HA := Lib.hid hA; clear hA) | (refine wpList_load_any 47 _ rfl rfl _ 0 rfl tl3 _ (HA.out.blk 0 rfl).range Try.underlying47 rfl (by rw [hl3]; kernel_rfl) ?_) | (refine wpList_store_sep HA.out 2 rfl tl3 47 _ _ rfl rfl rfl rfl (by rw [hl3, hl2]) (by rw [hl3]; kernel_rfl) ho3 (fun wB hB _ => ?_); have n8 := ((hB.blk 2 rfl).cell 8).trans T3.out.need; have n8l := (hB.blk 2 rfl).lt; rw [HNV.out] at n8; have HB := Lib.hid hB.tail; clear hB) | (refine wpList_load_any 47 _ rfl rfl _ 0 rfl tl3 _ (HB.out.blk 1 rfl).range Try.underlying47 rfl (by rw [hl3]; kernel_rfl) ?_) | (refine wpList_store_sep HB.out 0 rfl tl3 47 _ _ rfl rfl rfl rfl (by rw [hl3]; rfl) (by rw [hl3]; kernel_rfl) ho3 (fun wR hR _ => ?_); have HX := Lib.hid hR; clear hR))
              exact bodyPost_ret (v := .agg tl3.toArray) (res_cell Try.results62 rfl (HX.out.blk 0 rfl).range Try.underlying47 rfl (by rw [hl3]; kernel_rfl)) rfl ⟨by rw [HFI.out], HX.out.fr⟩
            · have HNV := Lib.hid hnv; clear hnv
              go_wp2_with (first | (refine wpList_store_sep HS.out 0 rfl tl3 47 _ _ rfl rfl rfl rfl (by rw [hl3]; rfl) (by rw [hl3]; kernel_rfl) ho3 (fun wA hA _ => ?_); have HA := Lib.hid hA; clear hA) | (refine wpList_load_any 47 _ rfl rfl _ 0 rfl tl3 _ (HA.out.blk 0 rfl).range Try.underlying47 rfl (by rw [hl3]; kernel_rfl) ?_) | (refine wpList_store_sep HA.out 2 rfl tl3 47 _ _ rfl rfl rfl rfl (by rw [hl3, hl2]) (by rw [hl3]; kernel_rfl) ho3 (fun wB hB _ => ?_); have n8 := ((hB.blk 2 rfl).cell 8).trans T3.out.need; have n8l := (hB.blk 2 rfl).lt; rw [HNV.out] at n8; have HB := Lib.hid hB.tail; clear hB) | (refine wpList_load_any 47 _ rfl rfl _ 0 rfl tl3 _ (HB.out.blk 1 rfl).range Try.underlying47 rfl (by rw [hl3]; kernel_rfl) ?_) | (refine wpList_store_sep HB.out 0 rfl tl3 47 _ _ rfl rfl rfl rfl (by rw [hl3]; rfl) (by rw [hl3]; kernel_rfl) ho3 (fun wR hR _ => ?_); have HX := Lib.hid hR; clear hR))
              exact bodyPost_ret (v := .agg tl3.toArray) (res_cell Try.results62 rfl (HX.out.blk 0 rfl).range Try.underlying47 rfl (by rw [hl3]; kernel_rfl)) rfl ⟨by rw [HFI.out], HX.out.fr⟩
        · have hnf : t3.need = false := by cases hx : t3.need; rfl; exact absurd (.inl hx) hret
          have his : is = true := by cases hx : is; exact absurd (.inr hx) hret; rfl
          subst his
          have HQ : Hid ((if (H.turn1 seq l (E1, E2) t3).need = true then H.turn1 seq l (E1, E2) t3 else H.applyG c who owner seq l (E.drop (k + 1)) bl (H.turn1 seq l (E1, E2) t3)) = FIN) := by have := HQ0.out; rw [if_neg hret] at this; exact this
          have HNV := Lib.hid hnf
          clear hnf hret HQ0 hlt
          have hatT := HSA.out (t3) (H.ldOp E1)
          have HLD4 : Hid (∀ w', Fr [] w w' → _) := fun w' f => HLDA.out (t3) E1 w' (by omega) f
          have hq := HQ.out
          unfold H.turn1 at hq
          rw [hl] at hq
          dsimp only at hq
          have TT := Lib.hid (HTF.out (t3))
          have T4 := Lib.hid (HTF.out ((t3).step n (H.ldOp E1)))
          generalize (t3).step n (H.ldOp E1) = t4 at hq hatT HLD4 T4
          generalize (t3).out l = o4 at hq HLD4
          obtain ⟨v4, s4, k4⟩ := o4
          dsimp only at hq HLD4
          obtain ⟨tlt, htlt⟩ : ∃ x, x = tapeL (.slice oa n oc) (t3) := ⟨_, rfl⟩
          obtain ⟨tl4, htl4⟩ : ∃ x, x = tapeL (.slice oa n oc) t4 := ⟨_, rfl⟩
          rw [← htlt] at HLD4 TT
          rw [← htl4] at HLD4 T4
          have HTT := Lib.hid htlt
          have HT4 := Lib.hid htl4; clear htl4 htlt
          have HQ2 := Lib.hid hq; clear hq HQ
          have HO4 := enO_hd2 ⟨v4, s4, k4⟩
          dsimp only at HO4
          have hlt := TT.out.len
          have hl4 := T4.out.len
          have ho4 := T4.out.one
          go_wp2_with (first | (refine wpList_store_sep HS.out 0 rfl tl3 47 _ _ rfl rfl rfl rfl (by rw [hl3]; rfl) (by rw [hl3]; kernel_rfl) ho3 (fun wA hA _ => ?_); have HA := Lib.hid hA; clear hA) | (refine wpList_load_any 47 _ rfl rfl _ 0 rfl tl3 _ (HA.out.blk 0 rfl).range Try.underlying47 rfl (by rw [hl3]; kernel_rfl) ?_) | (refine wpList_store_sep HA.out 2 rfl tl3 47 _ _ rfl rfl rfl rfl (by rw [hl3, hl2]) (by rw [hl3]; kernel_rfl) ho3 (fun wB hB _ => ?_); have n8 := ((hB.blk 2 rfl).cell 8).trans T3.out.need; have n8l := (hB.blk 2 rfl).lt; rw [HNV.out] at n8; have HB := Lib.hid hB.tail; clear hB) | (refine wpList_load_any 47 _ rfl rfl _ 0 rfl tl3 _ (HB.out.blk 1 rfl).range Try.underlying47 rfl (by rw [hl3]; kernel_rfl) ?_))
          have hS : Sep w wB [blkT (w.heap.size + 1 + 1) 47 _, blkT (w.heap.size + 1) 47 tl3, blkT w.heap.size 24 cl] := HB.out
          have h3t : tl3 = tlt := by rw [HT3.out, HTT.out]
          rw [h3t] at hS ⊢
          have HS := Lib.hid hS
          clear hS HB HA n8 n8l hl2 hl3 ho3 HST2 HOP3 T0 T2 T3 db0 db1 h3t
          refine (HLD4.out _ HS.out.fr).mono ?_
          rintro e w5 ⟨rfl, hf⟩
          have hS := ((HS.out.fr0 hf).new 47 [.slice none 0 0, .int .i64 0, .int .i64 0, .int .i64 0, .int .u64 0, .int .u64 0, .int .u64 0, .int .u64 0, .bool false]).new 41 [.int .u64 0, .int .u64 0]
          simp only [World.size_alloc] at hS
          have HS := Lib.hid hS; clear hS hf HLD4
          by_cases hs : s4 < seq
          · have ds : decide (s4 < seq) = true := by simpa using hs
            have HQ3 := Lib.hid (show (if (t4.step n ⟨2, E1, v4, s4, E2, seq⟩).need = true then t4.step n ⟨2, E1, v4, s4, E2, seq⟩ else H.applyG c who owner seq l (E.drop (k + 1)) (bl) (t4.step n ⟨2, E1, v4, s4, E2, seq⟩)) = FIN from by have := HQ2.out; rw [if_pos hs] at this; exact this)
            have HDO5 : Hid (∀ w', Fr [] w w' → _) := fun w' f => HDOA.out t4 ⟨2, E1, v4, s4, E2, seq⟩ w' (by omega) f
            have hatU := HSA.out t4 ⟨2, E1, v4, s4, E2, seq⟩
            have T5 := Lib.hid (HTF.out (t4.step n ⟨2, E1, v4, s4, E2, seq⟩))
            rw [← HT4.out] at HDO5
            generalize t4.step n ⟨2, E1, v4, s4, E2, seq⟩ = t5 at HQ3 HDO5 hatU T5
            obtain ⟨tl5, htl5⟩ : ∃ x, x = tapeL (.slice oa n oc) t5 := ⟨_, rfl⟩
            rw [← htl5] at HDO5 T5
            have HT5 := Lib.hid htl5; clear htl5 HQ2
            go_wp2_with (first | (refine wpList_store_sep HS.out 1 rfl tl4 47 _ _ rfl rfl rfl rfl (by rw [hl4]; rfl) (by rw [hl4]; kernel_rfl) ho4 (fun wA hA _ => ?_); have HA := Lib.hid hA; clear hA) | (refine wpList_store_sep HA.out 0 rfl [.int .u64 v4, .int .u64 s4] 41 _ _ rfl rfl rfl rfl rfl (by kernel_rfl) HO4 (fun wB hB _ => ?_); have HB := Lib.hid hB; clear hB) | (refine wpList_load_any 47 _ rfl rfl _ 0 rfl tl4 _ (HB.out.blk 1 rfl).range Try.underlying47 rfl (by rw [hl4]; kernel_rfl) ?_) | (refine wpList_store_sep HB.out 3 rfl tl4 47 _ _ rfl rfl rfl rfl (by rw [hl4, hlt]) (by rw [hl4]; kernel_rfl) ho4 (fun wC hC _ => ?_); have s1 := (hC.blk 0 rfl).cell 1; have sl := (hC.blk 0 rfl).lt; simp only [List.set_cons_zero, List.set_cons_succ, List.getElem?_cons_zero, List.getElem?_cons_succ] at s1; have HC := Lib.hid hC; clear hC))
            have hS : Sep w wC [blkT _ 41 [.int .u64 v4, .int .u64 s4], blkT _ 47 tl4, blkT (w.heap.size + 1 + 1) 47 _, blkT (w.heap.size + 1) 47 tl4, blkT w.heap.size 24 cl] := HC.out
            have HS := Lib.hid hS.drew; clear hS HA HB HC s1 sl
            generalize w5.heap.size + 1 = XC at HS ⊢
            have hmt := (HS.out.blk 3 rfl)
            have hmx := (HS.out.blk 0 rfl)
            obtain ⟨x9, hx9, hxb, d0, d1⟩ := (hE.fr HS.out.fr).at (i := k) (by omega)
            have y1 := d1 0 _ (show (enE (E[k]'(by omega)))[0 + 1]? = some (.int .u64 E2) by rw [HEE.out]; rfl)
            simp only [Nat.zero_add, Nat.reduceAdd] at y1
            obtain rfl : x = x9 := by simpa using hx9
            refine wp_region_fr [(1, [0, 1, 2, 3, 4, 5, 6, 7, 8, 9, 10]), (3, [11]), (0, [12, 13, 14]), (3, [15])] [] (by kernel_rfl) (by kernel_rfl) ?_
            simp only [theOps, nthOp, List.map_cons, List.map_nil, Array.getD_eq_getD_getElem?, List.getElem?_toArray, List.getElem?_cons_succ, List.getElem?_cons_zero, Option.getD_some]
            refine wpSegs_soft ?_
            refine wpQuiet_load_mid 47 _ (w.heap.size + 1) 0 tl4 _ rfl rfl rfl (rangeAt_after hmt (by simp)) Try.underlying47 rfl (by rw [hl4]; kernel_rfl) ?_
            simp only [Act.put, List.setIfInBounds_toArray, List.set_cons_zero, List.set_cons_succ]
            iterate 1 (first | go_big_quiet_step (fail) | quiet_step (fail))
            refine wpQuiet_load_mid 41 _ XC 0 [.int .u64 v4, .int .u64 s4] _ rfl rfl rfl (rangeAt_after hmx (by simp)) Try.underlying41 rfl (by kernel_rfl) ?_
            simp only [Act.put, List.setIfInBounds_toArray, List.set_cons_zero, List.set_cons_succ]
            repeat (first | go_big_quiet_step (fail) | quiet_step (fail))
            refine wpQuiet_nil ?_
            refine wpSegs_hard ?_
            go_wp2_with fail
            refine (HDO5.out _ HS.out.fr).mono ?_
            rintro e w6 ⟨rfl, hf⟩
            have HS := Lib.hid (HS.out.fr0 hf); clear hf HDO5
            go_wp2_with fail
            repeat ((first | refine wpSegs_soft ?_ | refine wpSegs_pure ?_ | refine wpSegs_here ?_); (repeat (first | go_big_quiet_step (fail) | quiet_step (fail))); refine wpQuiet_nil ?_)
            refine wpSegs_hard ?_
            refine wpList_store_sep HS.out 3 rfl tl5 47 _ _ rfl rfl rfl rfl (by rw [T5.out.len, hl4]) (by rw [T5.out.len]; kernel_rfl) T5.out.one (fun wD hD _ => ?_)
            have HS := Lib.hid (hD.sub (Ts' := [_, _, _]) [2, 3, 4] rfl (by decide)); clear hD
            go_wp2_with fail
            refine wpSegs_done ?_
            clear hmt hmx y1 d0 d1
            have n8 := ((HS.out.blk 1 rfl).cell 8).trans T5.out.need
            have n8l := (HS.out.blk 1 rfl).lt
            by_cases hnd : t5.need = true
            · have hfin : t5 = FIN := by have := HQ3.out; rw [if_pos hnd] at this; exact this
              rw [hnd] at n8
              have HFI := Lib.hid (show tl5 = tapeL (.slice oa n oc) FIN by rw [HT5.out, hfin])
              clear hnd hfin
              have hlx := (T5).out.len
              have hox := (T5).out.one
              go_wp2_with (first | (refine wpList_load_any 47 _ rfl rfl _ 0 rfl tl5 _ (HS.out.blk 1 rfl).range Try.underlying47 rfl (by rw [hlx]; kernel_rfl) ?_) | (refine wpList_store_sep HS.out 0 rfl tl5 47 _ _ rfl rfl rfl rfl (by rw [hlx]; rfl) (by rw [hlx]; kernel_rfl) hox (fun wR hR _ => ?_); have HX := Lib.hid hR; clear hR))
              exact bodyPost_ret (v := .agg (tl5).toArray) (res_cell Try.results62 rfl (HX.out.blk 0 rfl).range Try.underlying47 rfl (by rw [hlx]; kernel_rfl)) rfl ⟨by rw [HFI.out], HX.out.fr⟩
            · have hnx := HQ3.out
              rw [if_neg hnd] at hnx
              have hnf : t5.need = false := by simpa using hnd
              rw [hnf] at n8
              have HNX := Lib.hid hnx
              clear hnx hnd hnf
              go_wp2_with fail
              go_roundg (m - (k + 1))
              case measure => omega
              case rel => exact ⟨k + 1, bl, t5, by omega, rfl, by go_num, HNX.out, by omega, by rw [← HT5.out]; exact HS.out⟩
          · have ds : decide (s4 < seq) = false := by simpa using hs
            have HQ3 := Lib.hid (show (if t4.need = true then t4 else H.applyG c who owner seq l (E.drop (k + 1)) (bl) t4) = FIN from by have := HQ2.out; rw [if_neg hs] at this; exact this)
            clear HQ2
            by_cases hnd : t4.need = true
            · have hfin : t4 = FIN := by have := HQ3.out; rw [if_pos hnd] at this; exact this
              have HNV := Lib.hid hnd
              have HFI := Lib.hid (show tl4 = tapeL (.slice oa n oc) FIN by rw [HT4.out, hfin])
              clear hnd hfin
              have hlx := hl4
              have hox := ho4
              go_wp2_with (first | (refine wpList_store_sep HS.out 1 rfl tl4 47 _ _ rfl rfl rfl rfl (by rw [hl4]; rfl) (by rw [hl4]; kernel_rfl) ho4 (fun wA hA _ => ?_); have HA := Lib.hid hA; clear hA) | (refine wpList_store_sep HA.out 0 rfl [.int .u64 v4, .int .u64 s4] 41 _ _ rfl rfl rfl rfl rfl (by kernel_rfl) HO4 (fun wB hB _ => ?_); have HB := Lib.hid hB; clear hB) | (refine wpList_load_any 47 _ rfl rfl _ 0 rfl tl4 _ (HB.out.blk 1 rfl).range Try.underlying47 rfl (by rw [hl4]; kernel_rfl) ?_) | (refine wpList_store_sep HB.out 3 rfl tl4 47 _ _ rfl rfl rfl rfl (by rw [hl4, hlt]) (by rw [hl4]; kernel_rfl) ho4 (fun wC hC _ => ?_); have s1 := (hC.blk 0 rfl).cell 1; have sl := (hC.blk 0 rfl).lt; have n8 := ((hC.blk 3 rfl).cell 8).trans T4.out.need; have n8l := (hC.blk 3 rfl).lt; simp only [List.set_cons_zero, List.set_cons_succ, List.getElem?_cons_zero, List.getElem?_cons_succ] at s1; rw [HNV.out] at n8; have HD := Lib.hid (hC.sub (Ts' := [_, _, _]) [2, 3, 4] rfl (by decide)); clear hC) | (refine wpList_load_any 47 _ rfl rfl _ 0 rfl tl4 _ (HD.out.blk 1 rfl).range Try.underlying47 rfl (by rw [hlx]; kernel_rfl) ?_) | (refine wpList_store_sep HD.out 0 rfl tl4 47 _ _ rfl rfl rfl rfl (by rw [hlx]; rfl) (by rw [hlx]; kernel_rfl) hox (fun wR hR _ => ?_); have HX := Lib.hid hR; clear hR))
              exact bodyPost_ret (v := .agg tl4.toArray) (res_cell Try.results62 rfl (HX.out.blk 0 rfl).range Try.underlying47 rfl (by rw [hlx]; kernel_rfl)) rfl ⟨by rw [HFI.out], HX.out.fr⟩
            · have hnx := HQ3.out
              rw [if_neg hnd] at hnx
              have hnf : t4.need = false := by simpa using hnd
              have HNV := Lib.hid hnf
              have HNX := Lib.hid hnx
              clear hnx hnd hnf
              go_wp2_with (first | (refine wpList_store_sep HS.out 1 rfl tl4 47 _ _ rfl rfl rfl rfl (by rw [hl4]; rfl) (by rw [hl4]; kernel_rfl) ho4 (fun wA hA _ => ?_); have HA := Lib.hid hA; clear hA) | (refine wpList_store_sep HA.out 0 rfl [.int .u64 v4, .int .u64 s4] 41 _ _ rfl rfl rfl rfl rfl (by kernel_rfl) HO4 (fun wB hB _ => ?_); have HB := Lib.hid hB; clear hB) | (refine wpList_load_any 47 _ rfl rfl _ 0 rfl tl4 _ (HB.out.blk 1 rfl).range Try.underlying47 rfl (by rw [hl4]; kernel_rfl) ?_) | (refine wpList_store_sep HB.out 3 rfl tl4 47 _ _ rfl rfl rfl rfl (by rw [hl4, hlt]) (by rw [hl4]; kernel_rfl) ho4 (fun wC hC _ => ?_); have s1 := (hC.blk 0 rfl).cell 1; have sl := (hC.blk 0 rfl).lt; have n8 := ((hC.blk 3 rfl).cell 8).trans T4.out.need; have n8l := (hC.blk 3 rfl).lt; simp only [List.set_cons_zero, List.set_cons_succ, List.getElem?_cons_zero, List.getElem?_cons_succ] at s1; rw [HNV.out] at n8; have HD := Lib.hid (hC.sub (Ts' := [_, _, _]) [2, 3, 4] rfl (by decide)); clear hC))
              go_roundg (m - (k + 1))
              case measure => omega
              case rel => exact ⟨k + 1, bl, t4, by omega, rfl, by go_num, HNX.out, by omega, by rw [← HT4.out]; exact HD.out⟩
      · have HQ : Hid ((if (H.turn1 seq l (E1, E2) tk).need = true then H.turn1 seq l (E1, E2) tk else H.applyG c who owner seq l (E.drop (k + 1)) held (H.turn1 seq l (E1, E2) tk)) = FIN) := by have := HEQ.out; rw [if_neg hb] at this; exact this
        clear HEQ
        by_cases hb0 : 0 ≤ bl
        · have db0 : decide (bl ≥ 0) = true := by simpa using hb0
          have db1 : (bl != held) = false := by simp; exact Classical.not_not.1 fun hx => hb ⟨hb0, hx⟩
          clear hb
          have hatT := HSA.out (tk) (H.ldOp E1)
          have HLD4 : Hid (∀ w', Fr [] w w' → _) := fun w' f => HLDA.out (tk) E1 w' (by omega) f
          have hq := HQ.out
          unfold H.turn1 at hq
          rw [hl] at hq
          dsimp only at hq
          have TT := Lib.hid (HTF.out (tk))
          have T4 := Lib.hid (HTF.out ((tk).step n (H.ldOp E1)))
          generalize (tk).step n (H.ldOp E1) = t4 at hq hatT HLD4 T4
          generalize (tk).out l = o4 at hq HLD4
          obtain ⟨v4, s4, k4⟩ := o4
          dsimp only at hq HLD4
          obtain ⟨tlt, htlt⟩ : ∃ x, x = tapeL (.slice oa n oc) (tk) := ⟨_, rfl⟩
          obtain ⟨tl4, htl4⟩ : ∃ x, x = tapeL (.slice oa n oc) t4 := ⟨_, rfl⟩
          rw [← htlt] at HLD4 TT
          rw [← htl4] at HLD4 T4
          have HTT := Lib.hid htlt
          have HT4 := Lib.hid htl4; clear htl4 htlt
          have HQ2 := Lib.hid hq; clear hq HQ
          have HO4 := enO_hd2 ⟨v4, s4, k4⟩
          dsimp only at HO4
          have hlt := TT.out.len
          have hl4 := T4.out.len
          have ho4 := T4.out.one
          have hs2 := HS.out
          rw [← HTT.out] at hs2
          have HS := Lib.hid hs2; clear hs2
          go_wp2_with (first | (refine wpList_load_any 47 _ rfl rfl _ 0 rfl tlt _ (HS.out.blk 1 rfl).range Try.underlying47 rfl (by rw [hlt]; kernel_rfl) ?_))
          refine (HLD4.out _ HS.out.fr).mono ?_
          rintro e w5 ⟨rfl, hf⟩
          have hS := ((HS.out.fr0 hf).new 47 [.slice none 0 0, .int .i64 0, .int .i64 0, .int .i64 0, .int .u64 0, .int .u64 0, .int .u64 0, .int .u64 0, .bool false]).new 41 [.int .u64 0, .int .u64 0]
          simp only [World.size_alloc] at hS
          have HS := Lib.hid hS; clear hS hf HLD4
          by_cases hs : s4 < seq
          · have ds : decide (s4 < seq) = true := by simpa using hs
            have HQ3 := Lib.hid (show (if (t4.step n ⟨2, E1, v4, s4, E2, seq⟩).need = true then t4.step n ⟨2, E1, v4, s4, E2, seq⟩ else H.applyG c who owner seq l (E.drop (k + 1)) (held) (t4.step n ⟨2, E1, v4, s4, E2, seq⟩)) = FIN from by have := HQ2.out; rw [if_pos hs] at this; exact this)
            have HDO5 : Hid (∀ w', Fr [] w w' → _) := fun w' f => HDOA.out t4 ⟨2, E1, v4, s4, E2, seq⟩ w' (by omega) f
            have hatU := HSA.out t4 ⟨2, E1, v4, s4, E2, seq⟩
            have T5 := Lib.hid (HTF.out (t4.step n ⟨2, E1, v4, s4, E2, seq⟩))
            rw [← HT4.out] at HDO5
            generalize t4.step n ⟨2, E1, v4, s4, E2, seq⟩ = t5 at HQ3 HDO5 hatU T5
            obtain ⟨tl5, htl5⟩ : ∃ x, x = tapeL (.slice oa n oc) t5 := ⟨_, rfl⟩
            rw [← htl5] at HDO5 T5
            have HT5 := Lib.hid htl5; clear htl5 HQ2
            go_wp2_with (first | (refine wpList_store_sep HS.out 1 rfl tl4 47 _ _ rfl rfl rfl rfl (by rw [hl4]; rfl) (by rw [hl4]; kernel_rfl) ho4 (fun wA hA _ => ?_); have HA := Lib.hid hA; clear hA) | (refine wpList_store_sep HA.out 0 rfl [.int .u64 v4, .int .u64 s4] 41 _ _ rfl rfl rfl rfl rfl (by kernel_rfl) HO4 (fun wB hB _ => ?_); have HB := Lib.hid hB; clear hB) | (refine wpList_load_any 47 _ rfl rfl _ 0 rfl tl4 _ (HB.out.blk 1 rfl).range Try.underlying47 rfl (by rw [hl4]; kernel_rfl) ?_) | (refine wpList_store_sep HB.out 3 rfl tl4 47 _ _ rfl rfl rfl rfl (by rw [hl4, hlt]) (by rw [hl4]; kernel_rfl) ho4 (fun wC hC _ => ?_); have s1 := (hC.blk 0 rfl).cell 1; have sl := (hC.blk 0 rfl).lt; simp only [List.set_cons_zero, List.set_cons_succ, List.getElem?_cons_zero, List.getElem?_cons_succ] at s1; have HC := Lib.hid hC; clear hC))
            have hS : Sep w wC [blkT _ 41 [.int .u64 v4, .int .u64 s4], blkT _ 47 tl4, blkT (w.heap.size + 1 + 1) 47 _, blkT (w.heap.size + 1) 47 tl4, blkT w.heap.size 24 cl] := HC.out
            have HS := Lib.hid hS.drew; clear hS HA HB HC s1 sl
            generalize w5.heap.size + 1 = XC at HS ⊢
            have hmt := (HS.out.blk 3 rfl)
            have hmx := (HS.out.blk 0 rfl)
            obtain ⟨x9, hx9, hxb, d0, d1⟩ := (hE.fr HS.out.fr).at (i := k) (by omega)
            have y1 := d1 0 _ (show (enE (E[k]'(by omega)))[0 + 1]? = some (.int .u64 E2) by rw [HEE.out]; rfl)
            simp only [Nat.zero_add, Nat.reduceAdd] at y1
            obtain rfl : x = x9 := by simpa using hx9
            refine wp_region_fr [(1, [0, 1, 2, 3, 4, 5, 6, 7, 8, 9, 10]), (3, [11]), (0, [12, 13, 14]), (3, [15])] [] (by kernel_rfl) (by kernel_rfl) ?_
            simp only [theOps, nthOp, List.map_cons, List.map_nil, Array.getD_eq_getD_getElem?, List.getElem?_toArray, List.getElem?_cons_succ, List.getElem?_cons_zero, Option.getD_some]
            refine wpSegs_soft ?_
            refine wpQuiet_load_mid 47 _ (w.heap.size + 1) 0 tl4 _ rfl rfl rfl (rangeAt_after hmt (by simp)) Try.underlying47 rfl (by rw [hl4]; kernel_rfl) ?_
            simp only [Act.put, List.setIfInBounds_toArray, List.set_cons_zero, List.set_cons_succ]
            iterate 1 (first | go_big_quiet_step (fail) | quiet_step (fail))
            refine wpQuiet_load_mid 41 _ XC 0 [.int .u64 v4, .int .u64 s4] _ rfl rfl rfl (rangeAt_after hmx (by simp)) Try.underlying41 rfl (by kernel_rfl) ?_
            simp only [Act.put, List.setIfInBounds_toArray, List.set_cons_zero, List.set_cons_succ]
            repeat (first | go_big_quiet_step (fail) | quiet_step (fail))
            refine wpQuiet_nil ?_
            refine wpSegs_hard ?_
            go_wp2_with fail
            refine (HDO5.out _ HS.out.fr).mono ?_
            rintro e w6 ⟨rfl, hf⟩
            have HS := Lib.hid (HS.out.fr0 hf); clear hf HDO5
            go_wp2_with fail
            repeat ((first | refine wpSegs_soft ?_ | refine wpSegs_pure ?_ | refine wpSegs_here ?_); (repeat (first | go_big_quiet_step (fail) | quiet_step (fail))); refine wpQuiet_nil ?_)
            refine wpSegs_hard ?_
            refine wpList_store_sep HS.out 3 rfl tl5 47 _ _ rfl rfl rfl rfl (by rw [T5.out.len, hl4]) (by rw [T5.out.len]; kernel_rfl) T5.out.one (fun wD hD _ => ?_)
            have HS := Lib.hid (hD.sub (Ts' := [_, _, _]) [2, 3, 4] rfl (by decide)); clear hD
            go_wp2_with fail
            refine wpSegs_done ?_
            clear hmt hmx y1 d0 d1
            have n8 := ((HS.out.blk 1 rfl).cell 8).trans T5.out.need
            have n8l := (HS.out.blk 1 rfl).lt
            by_cases hnd : t5.need = true
            · have hfin : t5 = FIN := by have := HQ3.out; rw [if_pos hnd] at this; exact this
              rw [hnd] at n8
              have HFI := Lib.hid (show tl5 = tapeL (.slice oa n oc) FIN by rw [HT5.out, hfin])
              clear hnd hfin
              have hlx := (T5).out.len
              have hox := (T5).out.one
              go_wp2_with (first | (refine wpList_load_any 47 _ rfl rfl _ 0 rfl tl5 _ (HS.out.blk 1 rfl).range Try.underlying47 rfl (by rw [hlx]; kernel_rfl) ?_) | (refine wpList_store_sep HS.out 0 rfl tl5 47 _ _ rfl rfl rfl rfl (by rw [hlx]; rfl) (by rw [hlx]; kernel_rfl) hox (fun wR hR _ => ?_); have HX := Lib.hid hR; clear hR))
              exact bodyPost_ret (v := .agg (tl5).toArray) (res_cell Try.results62 rfl (HX.out.blk 0 rfl).range Try.underlying47 rfl (by rw [hlx]; kernel_rfl)) rfl ⟨by rw [HFI.out], HX.out.fr⟩
            · have hnx := HQ3.out
              rw [if_neg hnd] at hnx
              have hnf : t5.need = false := by simpa using hnd
              rw [hnf] at n8
              have HNX := Lib.hid hnx
              clear hnx hnd hnf
              go_wp2_with fail
              go_roundg (m - (k + 1))
              case measure => omega
              case rel => exact ⟨k + 1, held, t5, by omega, rfl, by go_num, HNX.out, by omega, by rw [← HT5.out]; exact HS.out⟩
          · have ds : decide (s4 < seq) = false := by simpa using hs
            have HQ3 := Lib.hid (show (if t4.need = true then t4 else H.applyG c who owner seq l (E.drop (k + 1)) (held) t4) = FIN from by have := HQ2.out; rw [if_neg hs] at this; exact this)
            clear HQ2
            by_cases hnd : t4.need = true
            · have hfin : t4 = FIN := by have := HQ3.out; rw [if_pos hnd] at this; exact this
              have HNV := Lib.hid hnd
              have HFI := Lib.hid (show tl4 = tapeL (.slice oa n oc) FIN by rw [HT4.out, hfin])
              clear hnd hfin
              have hlx := hl4
              have hox := ho4
              go_wp2_with (first | (refine wpList_store_sep HS.out 1 rfl tl4 47 _ _ rfl rfl rfl rfl (by rw [hl4]; rfl) (by rw [hl4]; kernel_rfl) ho4 (fun wA hA _ => ?_); have HA := Lib.hid hA; clear hA) | (refine wpList_store_sep HA.out 0 rfl [.int .u64 v4, .int .u64 s4] 41 _ _ rfl rfl rfl rfl rfl (by kernel_rfl) HO4 (fun wB hB _ => ?_); have HB := Lib.hid hB; clear hB) | (refine wpList_load_any 47 _ rfl rfl _ 0 rfl tl4 _ (HB.out.blk 1 rfl).range Try.underlying47 rfl (by rw [hl4]; kernel_rfl) ?_) | (refine wpList_store_sep HB.out 3 rfl tl4 47 _ _ rfl rfl rfl rfl (by rw [hl4, hlt]) (by rw [hl4]; kernel_rfl) ho4 (fun wC hC _ => ?_); have s1 := (hC.blk 0 rfl).cell 1; have sl := (hC.blk 0 rfl).lt; have n8 := ((hC.blk 3 rfl).cell 8).trans T4.out.need; have n8l := (hC.blk 3 rfl).lt; simp only [List.set_cons_zero, List.set_cons_succ, List.getElem?_cons_zero, List.getElem?_cons_succ] at s1; rw [HNV.out] at n8; have HD := Lib.hid (hC.sub (Ts' := [_, _, _]) [2, 3, 4] rfl (by decide)); clear hC) | (refine wpList_load_any 47 _ rfl rfl _ 0 rfl tl4 _ (HD.out.blk 1 rfl).range Try.underlying47 rfl (by rw [hlx]; kernel_rfl) ?_) | (refine wpList_store_sep HD.out 0 rfl tl4 47 _ _ rfl rfl rfl rfl (by rw [hlx]; rfl) (by rw [hlx]; kernel_rfl) hox (fun wR hR _ => ?_); have HX := Lib.hid hR; clear hR))
              exact bodyPost_ret (v := .agg tl4.toArray) (res_cell Try.results62 rfl (HX.out.blk 0 rfl).range Try.underlying47 rfl (by rw [hlx]; kernel_rfl)) rfl ⟨by rw [HFI.out], HX.out.fr⟩
            · have hnx := HQ3.out
              rw [if_neg hnd] at hnx
              have hnf : t4.need = false := by simpa using hnd
              have HNV := Lib.hid hnf
              have HNX := Lib.hid hnx
              clear hnx hnd hnf
              go_wp2_with (first | (refine wpList_store_sep HS.out 1 rfl tl4 47 _ _ rfl rfl rfl rfl (by rw [hl4]; rfl) (by rw [hl4]; kernel_rfl) ho4 (fun wA hA _ => ?_); have HA := Lib.hid hA; clear hA) | (refine wpList_store_sep HA.out 0 rfl [.int .u64 v4, .int .u64 s4] 41 _ _ rfl rfl rfl rfl rfl (by kernel_rfl) HO4 (fun wB hB _ => ?_); have HB := Lib.hid hB; clear hB) | (refine wpList_load_any 47 _ rfl rfl _ 0 rfl tl4 _ (HB.out.blk 1 rfl).range Try.underlying47 rfl (by rw [hl4]; kernel_rfl) ?_) | (refine wpList_store_sep HB.out 3 rfl tl4 47 _ _ rfl rfl rfl rfl (by rw [hl4, hlt]) (by rw [hl4]; kernel_rfl) ho4 (fun wC hC _ => ?_); have s1 := (hC.blk 0 rfl).cell 1; have sl := (hC.blk 0 rfl).lt; have n8 := ((hC.blk 3 rfl).cell 8).trans T4.out.need; have n8l := (hC.blk 3 rfl).lt; simp only [List.set_cons_zero, List.set_cons_succ, List.getElem?_cons_zero, List.getElem?_cons_succ] at s1; rw [HNV.out] at n8; have HD := Lib.hid (hC.sub (Ts' := [_, _, _]) [2, 3, 4] rfl (by decide)); clear hC))
              go_roundg (m - (k + 1))
              case measure => omega
              case rel => exact ⟨k + 1, held, t4, by omega, rfl, by go_num, HNX.out, by omega, by rw [← HT4.out]; exact HD.out⟩
        · have db0 : decide (bl ≥ 0) = false := by simp; omega
          clear hb
          have hatT := HSA.out (tk) (H.ldOp E1)
          have HLD4 : Hid (∀ w', Fr [] w w' → _) := fun w' f => HLDA.out (tk) E1 w' (by omega) f
          have hq := HQ.out
          unfold H.turn1 at hq
          rw [hl] at hq
          dsimp only at hq
          have TT := Lib.hid (HTF.out (tk))
          have T4 := Lib.hid (HTF.out ((tk).step n (H.ldOp E1)))
          generalize (tk).step n (H.ldOp E1) = t4 at hq hatT HLD4 T4
          generalize (tk).out l = o4 at hq HLD4
          obtain ⟨v4, s4, k4⟩ := o4
          dsimp only at hq HLD4
          obtain ⟨tlt, htlt⟩ : ∃ x, x = tapeL (.slice oa n oc) (tk) := ⟨_, rfl⟩
          obtain ⟨tl4, htl4⟩ : ∃ x, x = tapeL (.slice oa n oc) t4 := ⟨_, rfl⟩
          rw [← htlt] at HLD4 TT
          rw [← htl4] at HLD4 T4
          have HTT := Lib.hid htlt
          have HT4 := Lib.hid htl4; clear htl4 htlt
          have HQ2 := Lib.hid hq; clear hq HQ
          have HO4 := enO_hd2 ⟨v4, s4, k4⟩
          dsimp only at HO4
          have hlt := TT.out.len
          have hl4 := T4.out.len
          have ho4 := T4.out.one
          have hs2 := HS.out
          rw [← HTT.out] at hs2
          have HS := Lib.hid hs2; clear hs2
          go_wp2_with (first | (refine wpList_load_any 47 _ rfl rfl _ 0 rfl tlt _ (HS.out.blk 1 rfl).range Try.underlying47 rfl (by rw [hlt]; kernel_rfl) ?_))
          refine (HLD4.out _ HS.out.fr).mono ?_
          rintro e w5 ⟨rfl, hf⟩
          have hS := ((HS.out.fr0 hf).new 47 [.slice none 0 0, .int .i64 0, .int .i64 0, .int .i64 0, .int .u64 0, .int .u64 0, .int .u64 0, .int .u64 0, .bool false]).new 41 [.int .u64 0, .int .u64 0]
          simp only [World.size_alloc] at hS
          have HS := Lib.hid hS; clear hS hf HLD4
          by_cases hs : s4 < seq
          · have ds : decide (s4 < seq) = true := by simpa using hs
            have HQ3 := Lib.hid (show (if (t4.step n ⟨2, E1, v4, s4, E2, seq⟩).need = true then t4.step n ⟨2, E1, v4, s4, E2, seq⟩ else H.applyG c who owner seq l (E.drop (k + 1)) (held) (t4.step n ⟨2, E1, v4, s4, E2, seq⟩)) = FIN from by have := HQ2.out; rw [if_pos hs] at this; exact this)
            have HDO5 : Hid (∀ w', Fr [] w w' → _) := fun w' f => HDOA.out t4 ⟨2, E1, v4, s4, E2, seq⟩ w' (by omega) f
            have hatU := HSA.out t4 ⟨2, E1, v4, s4, E2, seq⟩
            have T5 := Lib.hid (HTF.out (t4.step n ⟨2, E1, v4, s4, E2, seq⟩))
            rw [← HT4.out] at HDO5
            generalize t4.step n ⟨2, E1, v4, s4, E2, seq⟩ = t5 at HQ3 HDO5 hatU T5
            obtain ⟨tl5, htl5⟩ : ∃ x, x = tapeL (.slice oa n oc) t5 := ⟨_, rfl⟩
            rw [← htl5] at HDO5 T5
            have HT5 := Lib.hid htl5; clear htl5 HQ2
            go_wp2_with (first | (refine wpList_store_sep HS.out 1 rfl tl4 47 _ _ rfl rfl rfl rfl (by rw [hl4]; rfl) (by rw [hl4]; kernel_rfl) ho4 (fun wA hA _ => ?_); have HA := Lib.hid hA; clear hA) | (refine wpList_store_sep HA.out 0 rfl [.int .u64 v4, .int .u64 s4] 41 _ _ rfl rfl rfl rfl rfl (by kernel_rfl) HO4 (fun wB hB _ => ?_); have HB := Lib.hid hB; clear hB) | (refine wpList_load_any 47 _ rfl rfl _ 0 rfl tl4 _ (HB.out.blk 1 rfl).range Try.underlying47 rfl (by rw [hl4]; kernel_rfl) ?_) | (refine wpList_store_sep HB.out 3 rfl tl4 47 _ _ rfl rfl rfl rfl (by rw [hl4, hlt]) (by rw [hl4]; kernel_rfl) ho4 (fun wC hC _ => ?_); have s1 := (hC.blk 0 rfl).cell 1; have sl := (hC.blk 0 rfl).lt; simp only [List.set_cons_zero, List.set_cons_succ, List.getElem?_cons_zero, List.getElem?_cons_succ] at s1; have HC := Lib.hid hC; clear hC))
            have hS : Sep w wC [blkT _ 41 [.int .u64 v4, .int .u64 s4], blkT _ 47 tl4, blkT (w.heap.size + 1 + 1) 47 _, blkT (w.heap.size + 1) 47 tl4, blkT w.heap.size 24 cl] := HC.out
            have HS := Lib.hid hS.drew; clear hS HA HB HC s1 sl
            generalize w5.heap.size + 1 = XC at HS ⊢
            have hmt := (HS.out.blk 3 rfl)
            have hmx := (HS.out.blk 0 rfl)
            obtain ⟨x9, hx9, hxb, d0, d1⟩ := (hE.fr HS.out.fr).at (i := k) (by omega)
            have y1 := d1 0 _ (show (enE (E[k]'(by omega)))[0 + 1]? = some (.int .u64 E2) by rw [HEE.out]; rfl)
            simp only [Nat.zero_add, Nat.reduceAdd] at y1
            obtain rfl : x = x9 := by simpa using hx9
            refine wp_region_fr [(1, [0, 1, 2, 3, 4, 5, 6, 7, 8, 9, 10]), (3, [11]), (0, [12, 13, 14]), (3, [15])] [] (by kernel_rfl) (by kernel_rfl) ?_
            simp only [theOps, nthOp, List.map_cons, List.map_nil, Array.getD_eq_getD_getElem?, List.getElem?_toArray, List.getElem?_cons_succ, List.getElem?_cons_zero, Option.getD_some]
            refine wpSegs_soft ?_
            refine wpQuiet_load_mid 47 _ (w.heap.size + 1) 0 tl4 _ rfl rfl rfl (rangeAt_after hmt (by simp)) Try.underlying47 rfl (by rw [hl4]; kernel_rfl) ?_
            simp only [Act.put, List.setIfInBounds_toArray, List.set_cons_zero, List.set_cons_succ]
            iterate 1 (first | go_big_quiet_step (fail) | quiet_step (fail))
            refine wpQuiet_load_mid 41 _ XC 0 [.int .u64 v4, .int .u64 s4] _ rfl rfl rfl (rangeAt_after hmx (by simp)) Try.underlying41 rfl (by kernel_rfl) ?_
            simp only [Act.put, List.setIfInBounds_toArray, List.set_cons_zero, List.set_cons_succ]
            repeat (first | go_big_quiet_step (fail) | quiet_step (fail))
            refine wpQuiet_nil ?_
            refine wpSegs_hard ?_
            go_wp2_with fail
            refine (HDO5.out _ HS.out.fr).mono ?_
            rintro e w6 ⟨rfl, hf⟩
            have HS := Lib.hid (HS.out.fr0 hf); clear hf HDO5
            go_wp2_with fail
            repeat ((first | refine wpSegs_soft ?_ | refine wpSegs_pure ?_ | refine wpSegs_here ?_); (repeat (first | go_big_quiet_step (fail) | quiet_step (fail))); refine wpQuiet_nil ?_)
            refine wpSegs_hard ?_
            refine wpList_store_sep HS.out 3 rfl tl5 47 _ _ rfl rfl rfl rfl (by rw [T5.out.len, hl4]) (by rw [T5.out.len]; kernel_rfl) T5.out.one (fun wD hD _ => ?_)
            have HS := Lib.hid (hD.sub (Ts' := [_, _, _]) [2, 3, 4] rfl (by decide)); clear hD
            go_wp2_with fail
            refine wpSegs_done ?_
            clear hmt hmx y1 d0 d1
            have n8 := ((HS.out.blk 1 rfl).cell 8).trans T5.out.need
            have n8l := (HS.out.blk 1 rfl).lt
            by_cases hnd : t5.need = true
            · have hfin : t5 = FIN := by have := HQ3.out; rw [if_pos hnd] at this; exact this
              rw [hnd] at n8
              have HFI := Lib.hid (show tl5 = tapeL (.slice oa n oc) FIN by rw [HT5.out, hfin])
              clear hnd hfin
              have hlx := (T5).out.len
              have hox := (T5).out.one
              go_wp2_with (first | (refine wpList_load_any 47 _ rfl rfl _ 0 rfl tl5 _ (HS.out.blk 1 rfl).range Try.underlying47 rfl (by rw [hlx]; kernel_rfl) ?_) | (refine wpList_store_sep HS.out 0 rfl tl5 47 _ _ rfl rfl rfl rfl (by rw [hlx]; rfl) (by rw [hlx]; kernel_rfl) hox (fun wR hR _ => ?_); have HX := Lib.hid hR; clear hR))
              exact bodyPost_ret (v := .agg (tl5).toArray) (res_cell Try.results62 rfl (HX.out.blk 0 rfl).range Try.underlying47 rfl (by rw [hlx]; kernel_rfl)) rfl ⟨by rw [HFI.out], HX.out.fr⟩
            · have hnx := HQ3.out
              rw [if_neg hnd] at hnx
              have hnf : t5.need = false := by simpa using hnd
              rw [hnf] at n8
              have HNX := Lib.hid hnx
              clear hnx hnd hnf
              go_wp2_with fail
              go_roundg (m - (k + 1))
              case measure => omega
              case rel => exact ⟨k + 1, held, t5, by omega, rfl, by go_num, HNX.out, by omega, by rw [← HT5.out]; exact HS.out⟩
          · have ds : decide (s4 < seq) = false := by simpa using hs
            have HQ3 := Lib.hid (show (if t4.need = true then t4 else H.applyG c who owner seq l (E.drop (k + 1)) (held) t4) = FIN from by have := HQ2.out; rw [if_neg hs] at this; exact this)
            clear HQ2
            by_cases hnd : t4.need = true
            · have hfin : t4 = FIN := by have := HQ3.out; rw [if_pos hnd] at this; exact this
              have HNV := Lib.hid hnd
              have HFI := Lib.hid (show tl4 = tapeL (.slice oa n oc) FIN by rw [HT4.out, hfin])
              clear hnd hfin
              have hlx := hl4
              have hox := ho4
              go_wp2_with (first | (refine wpList_store_sep HS.out 1 rfl tl4 47 _ _ rfl rfl rfl rfl (by rw [hl4]; rfl) (by rw [hl4]; kernel_rfl) ho4 (fun wA hA _ => ?_); have HA := Lib.hid hA; clear hA) | (refine wpList_store_sep HA.out 0 rfl [.int .u64 v4, .int .u64 s4] 41 _ _ rfl rfl rfl rfl rfl (by kernel_rfl) HO4 (fun wB hB _ => ?_); have HB := Lib.hid hB; clear hB) | (refine wpList_load_any 47 _ rfl rfl _ 0 rfl tl4 _ (HB.out.blk 1 rfl).range Try.underlying47 rfl (by rw [hl4]; kernel_rfl) ?_) | (refine wpList_store_sep HB.out 3 rfl tl4 47 _ _ rfl rfl rfl rfl (by rw [hl4, hlt]) (by rw [hl4]; kernel_rfl) ho4 (fun wC hC _ => ?_); have s1 := (hC.blk 0 rfl).cell 1; have sl := (hC.blk 0 rfl).lt; have n8 := ((hC.blk 3 rfl).cell 8).trans T4.out.need; have n8l := (hC.blk 3 rfl).lt; simp only [List.set_cons_zero, List.set_cons_succ, List.getElem?_cons_zero, List.getElem?_cons_succ] at s1; rw [HNV.out] at n8; have HD := Lib.hid (hC.sub (Ts' := [_, _, _]) [2, 3, 4] rfl (by decide)); clear hC) | (refine wpList_load_any 47 _ rfl rfl _ 0 rfl tl4 _ (HD.out.blk 1 rfl).range Try.underlying47 rfl (by rw [hlx]; kernel_rfl) ?_) | (refine wpList_store_sep HD.out 0 rfl tl4 47 _ _ rfl rfl rfl rfl (by rw [hlx]; rfl) (by rw [hlx]; kernel_rfl) hox (fun wR hR _ => ?_); have HX := Lib.hid hR; clear hR))
              exact bodyPost_ret (v := .agg tl4.toArray) (res_cell Try.results62 rfl (HX.out.blk 0 rfl).range Try.underlying47 rfl (by rw [hlx]; kernel_rfl)) rfl ⟨by rw [HFI.out], HX.out.fr⟩
            · have hnx := HQ3.out
              rw [if_neg hnd] at hnx
              have hnf : t4.need = false := by simpa using hnd
              have HNV := Lib.hid hnf
              have HNX := Lib.hid hnx
              clear hnx hnd hnf
              go_wp2_with (first | (refine wpList_store_sep HS.out 1 rfl tl4 47 _ _ rfl rfl rfl rfl (by rw [hl4]; rfl) (by rw [hl4]; kernel_rfl) ho4 (fun wA hA _ => ?_); have HA := Lib.hid hA; clear hA) | (refine wpList_store_sep HA.out 0 rfl [.int .u64 v4, .int .u64 s4] 41 _ _ rfl rfl rfl rfl rfl (by kernel_rfl) HO4 (fun wB hB _ => ?_); have HB := Lib.hid hB; clear hB) | (refine wpList_load_any 47 _ rfl rfl _ 0 rfl tl4 _ (HB.out.blk 1 rfl).range Try.underlying47 rfl (by rw [hl4]; kernel_rfl) ?_) | (refine wpList_store_sep HB.out 3 rfl tl4 47 _ _ rfl rfl rfl rfl (by rw [hl4, hlt]) (by rw [hl4]; kernel_rfl) ho4 (fun wC hC _ => ?_); have s1 := (hC.blk 0 rfl).cell 1; have sl := (hC.blk 0 rfl).lt; have n8 := ((hC.blk 3 rfl).cell 8).trans T4.out.need; have n8l := (hC.blk 3 rfl).lt; simp only [List.set_cons_zero, List.set_cons_succ, List.getElem?_cons_zero, List.getElem?_cons_succ] at s1; rw [HNV.out] at n8; have HD := Lib.hid (hC.sub (Ts' := [_, _, _]) [2, 3, 4] rfl (by decide)); clear hC))
              go_roundg (m - (k + 1))
              case measure => omega
              case rel => exact ⟨k + 1, held, t4, by omega, rfl, by go_num, HNX.out, by omega, by rw [← HT4.out]; exact HD.out⟩
    · obtain rfl : k = m := by omega
      rw [List.drop_eq_nil_of_le (by omega), HAN.out] at hEQ
      have HDO : Hid (∀ w', Fr [] w w' → _) := fun w' f => HDOA.out tk ⟨2, p4, 1, seq, 0, seq⟩ w' (by omega) f
      rw [hEQ] at HDO
      obtain ⟨tlk, htlk⟩ : ∃ x, x = tapeL (.slice oa n oc) tk := ⟨_, rfl⟩
      have T0 := Lib.hid (HTF.out tk)
      have T1 := Lib.hid (HTF.out FIN)
      have hs2 := HS.out
      rw [← htlk] at hs2 HDO T0
      have HS := Lib.hid hs2
      obtain ⟨tlf, htlf⟩ : ∃ x, x = tapeL (.slice oa n oc) FIN := ⟨_, rfl⟩
      rw [← htlf] at T1 HDO
      have HFI := Lib.hid htlf
      clear hs2 htlk htlf hEQ
      have hlt := T0.out.len
      go_wp2_with fail
      have hmt := (HS.out.blk 1 rfl).drew
      have hmc := (HS.out.blk 2 rfl).drew
      have HS := Lib.hid HS.out.drew
      refine wp_region_fr [(1, [0, 1, 2, 4, 5, 6, 7]), (2, [3]), (0, [8]), (3, [9]), (0, [10, 11, 12]), (3, [13])] [] (by kernel_rfl) (by kernel_rfl) ?_
      simp only [theOps, nthOp, List.map_cons, List.map_nil, Array.getD_eq_getD_getElem?, List.getElem?_toArray, List.getElem?_cons_succ, List.getElem?_cons_zero, Option.getD_some]
      refine wpSegs_soft ?_
      refine wpQuiet_load_mid 47 _ (w.heap.size + 1) 0 tlk _ rfl rfl rfl (rangeAt_after hmt (by simp)) Try.underlying47 rfl (by rw [hlt]; kernel_rfl) ?_
      simp only [Act.put, List.setIfInBounds_toArray, List.set_cons_zero, List.set_cons_succ]
      refine wpQuiet_load_mid 24 _ w.heap.size 0 cl _ rfl rfl rfl (rangeAt_after hmc (by simp)) Try.underlying24 rfl (by rw [hsz6]; kernel_rfl) ?_
      simp only [Act.put, List.setIfInBounds_toArray, List.set_cons_zero, List.set_cons_succ]
      repeat (first | go_big_quiet_step (fail) | quiet_step (fail))
      refine wpQuiet_nil ?_
      refine wpSegs_keep ?_
      go_wp2_with fail
      refine (HA4.out _).mono ?_
      rintro e w4 ⟨rfl, hf⟩
      have HF := Lib.hid hf
      have HS := Lib.hid (HS.out.fr0 hf); clear hf
      go_wp2_with fail
      refine ⟨⟨⟨_, (by exact HF.out)⟩, rfl⟩, ?_⟩
      repeat ((first | refine wpSegs_soft ?_ | refine wpSegs_pure ?_ | refine wpSegs_here ?_); (repeat (first | go_big_quiet_step (fail) | quiet_step (fail))); refine wpQuiet_nil ?_)
      refine wpSegs_hard ?_
      go_wp2_with fail
      refine (HDO.out _ HS.out.fr).mono ?_
      rintro e w5 ⟨rfl, hf⟩
      have HS := Lib.hid (HS.out.fr0 hf); clear hf
      go_wp2_with fail
      repeat ((first | refine wpSegs_soft ?_ | refine wpSegs_pure ?_ | refine wpSegs_here ?_); (repeat (first | go_big_quiet_step (fail) | quiet_step (fail))); refine wpQuiet_nil ?_)
      refine wpSegs_hard ?_
      refine wpList_store_sep HS.out 1 rfl tlf 47 _ _ rfl rfl rfl rfl (by rw [T1.out.len, hlt]) (by rw [T1.out.len]; kernel_rfl) T1.out.one (fun wD hD _ => ?_)
      have HS := Lib.hid hD; clear hD hmt hmc HF
      go_wp2_with fail
      refine wpSegs_done ?_
      have hlx := (T1).out.len
      have hox := (T1).out.one
      go_wp2_with (first | (refine wpList_load_any 47 _ rfl rfl _ 0 rfl tlf _ (HS.out.blk 1 rfl).range Try.underlying47 rfl (by rw [hlx]; kernel_rfl) ?_) | (refine wpList_store_sep HS.out 0 rfl tlf 47 _ _ rfl rfl rfl rfl (by rw [hlx]; rfl) (by rw [hlx]; kernel_rfl) hox (fun wR hR _ => ?_); have HX := Lib.hid hR; clear hR))
      exact bodyPost_ret (v := .agg (tlf).toArray) (res_cell Try.results62 rfl (HX.out.blk 0 rfl).range Try.underlying47 rfl (by rw [hlx]; kernel_rfl)) rfl ⟨by rw [HFI.out], HX.out.fr⟩
end Go.Proofs.Ytccioehckfdjdaa
