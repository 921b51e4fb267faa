/- The walks of the document's Help, and of the law's as (chapter 12). -/
import Derived.Test.YtccioehckfdjdaaHapply
import Derived.Test.YtccioehckfdjdaaHcopy
set_option linter.unusedSimpArgs false
set_option linter.unusedVariables false
namespace Go.Tum.H
open Go.Tum.Y Go.Tum.Sc
theorem copyG_bd (c : Cfg) (owner : Int) (l : List O3) (n : Int) : ∀ (g k : Nat) (t : Tp) (acc : List (Int × Int)), (copyG c owner l n g k t acc).1.at_ ≤ t.at_ + g ∧ (copyG c owner l n g k t acc).2.length ≤ acc.length + g
  | 0, k, t, acc => by unfold copyG; simp
  | g + 1, k, t, acc => by
    unfold copyG
    split
    · have := copyG_bd c owner l n g (k + 1) (t.step l.length (ldOp (at_ c 6 owner k))) (acc ++ [(placeOf (t.out l).s, (t.out l).v)])
      have h2 := tstep_at l.length t (ldOp (at_ c 6 owner k))
      simp only [List.length_append, List.length_cons, List.length_nil] at this
      omega
    · simp
end Go.Tum.H
namespace Go.Proofs.Ytccioehckfdjdaa
open Go.RowKit Go.Tum Go.Tum.Y Go.Tum.Sc
set_option maxRecDepth 100000 in
set_option maxHeartbeats 4000000 in
theorem as12_any (w : World) (v : Value) (L : List (Int × Int)) (hL : ArgE enE 2 w v L) (hn : L.length ≤ 1000) :
    Calls Try.prog 63 #[v] w fun e w' => ∃ v', e = .returned v' ∧ Fresh w w' (rowT 0 177 2 v' L.length (flat enE L)) := by
  obtain ⟨a, lc, rfl⟩ := hL.len
  obtain ⟨i0, hi0, hz0, hz1, hz2⟩ := info_parts H_infoE8
  have HL := Lib.hid hL
  have hni : (L.length : Int) ≤ 1000 := by omega
  have HS : Hid (Sep w (w.alloc (.cells #[] 177)) [rowT 0 177 2 (.slice (some ⟨w.heap.size, 0, none⟩) 0 0) 0 (flat enE (L.take 0))]) :=
    (Sep.nil (Fr.refl [] w)).fresh (T := rowT 0 177 2 (.slice (some ⟨w.heap.size, 0, none⟩) 0 0) 0 []) (w' := w.alloc (.cells #[] 177)) ⟨(Fr.refl [] w).alloc _, [w.heap.size], ⟨rfl, World.ownsRow_made w #[] 0 (Nat.zero_le _) (by unfold maxLen; omega) (by simp)⟩, by simp⟩
  clear hL
  go_enter Try.func63, Try.ntmps63
  go_wp2_with fail
  go_loopg [3, 9] L.length (fun g vo vi wr => ∃ k, g + k = L.length ∧ vi = .int .i64 (k : Int) ∧ Sep w wr [rowT 0 177 2 vo k (flat enE (L.take k))])
  case atStart => exact ⟨0, by omega, rfl, HS.out⟩
  case round =>
    clear HS
    obtain ⟨j, hgj, rfl, hS⟩ := hrel
    obtain ⟨oa, oc, rfl⟩ := hS.form 0 rfl
    by_cases hj : j < L.length
    · have hji : (j : Int) < (L.length : Int) := by omega
      obtain ⟨x, rfl, hx, c0, c1⟩ := (HL.out.fr hS.fr).at hj
      have htk : flat enE (L.take (j + 1)) = flat enE (L.take j) ++ enE L[j] := by
        rw [List.take_succ_eq_append_getElem hj, flat_app, flat_one]
      have HT := Lib.hid htk
      clear htk
      generalize L[j] = cc at *
      obtain ⟨z1, z2⟩ := cc
      have d0 := c0 _ rfl
      have d1 := c1 0 _ rfl
      have hS := (hS.new 136 [.int .i64 z1, .int .u64 z2]).new 177 [.int .i64 z1, .int .u64 z2]
      simp only [World.size_alloc] at hS
      have HS := Lib.hid hS
      clear c0 c1 hS
      have hjm : j ≤ 1000 := by omega
      go_wp2_with (at_builtin; go_must (refine wpList_push_blk _ rfl _ _ 93 rfl 0 177 i0 _ 2 16 Try.underlying93 hi0 hz0 hz1 hz2 rfl (by decide) (.slice oa j oc) j (flat enE (L.take j)) rfl (HS.out.row 2 rfl) (enE (z1, z2)) _ _ rfl (HS.out.blk 0 rfl) rfl (enE_one _) (by unfold maxLen; omega) (by omega) (Nat.zero_le _) ?_))
      intro g2 c2' w12 hown hg2 hgg hc1 hc2'
      have h3 := (HS.out.grown 2 rfl hown hg2 (fun q e => by
        rcases hgg with h1 | h1
        · exact .inl (h1.trans e)
        · right; simp only [Value.ownBlock, Option.some.injEq] at e; rw [← e, h1]; simp)).tail.tail
      rw [← HT.out] at h3
      have HS3 := Lib.hid (show Sep w w12 [rowT 0 177 2 (.slice (some ⟨g2, 0, none⟩) (j + 1) c2') (j + 1) (flat enE (L.take (j + 1)))] from h3)
      clear h3 hown hg2 hgg HS HT
      go_wp2_with fail
      go_roundg (L.length - (j + 1))
      case measure => omega
      case rel => exact ⟨j + 1, by omega, by go_num, HS3.out⟩
    · obtain rfl : j = L.length := by omega
      go_wp2_with fail
      go_ret
      rw [List.take_of_length_le (Nat.le_refl _)] at hS
      exact ⟨_, rfl, hS.toFresh⟩

set_option maxRecDepth 100000 in
set_option maxHeartbeats 16000000 in
theorem rhelp_any (w : World) (c : Cfg) (h : Ok c) (who owner seq : Int) (oa : Option Addr) (n oc : Nat) (t : Tp) (hn : n ≤ 100000) (ht : t.at_ ≤ 1000) (l : List O3) (hl : l.length = n) (hO : ArgE enO 3 w (.slice oa n oc) l) (hG : ∀ x ∈ l, goodO x) (FIN : Tp) (hFIN : H.helpG c who owner seq l t = FIN) :
    Calls Try.prog 64 #[cfgV c, .int .i64 who, .int .i64 owner, .int .u64 seq, .agg (tapeL (.slice oa n oc) t).toArray] w fun e w' => e = .returned (.agg (tapeL (.slice oa n oc) FIN).toArray) ∧ Fr [] w w' := by
  have hcb := cap_bd h
  obtain ⟨CP, hCP⟩ : ∃ CP, H.copyG c owner l (t.out l).v (cap c).toNat 0 (t.step n (H.ldOp (at_ c 5 owner 0))) [] = CP := ⟨_, rfl⟩
  have hbd := H.copyG_bd c owner l (t.out l).v (cap c).toNat 0 (t.step n (H.ldOp (at_ c 5 owner 0))) []
  have hst0 := tstep_at n t (H.ldOp (at_ c 5 owner 0))
  rw [hCP] at hbd
  simp only [List.length_nil] at hbd
  have HCO : Hid (∀ w', Fr [] w w' → Calls Try.prog 121 #[.agg (cfgL c).toArray, .int .i64 owner, .agg (tapeL (.slice oa n oc) t).toArray] w' fun e w'' => ∃ v', e = .returned (.tuple #[.agg (tapeL (.slice oa n oc) CP.1).toArray, v']) ∧ Sep w' w'' [rowT 0 177 2 v' CP.2.length (flat enE CP.2)]) := fun w' f => rcopy_any w' c h owner oa n oc t hn ht l hl (hO.fr f) hG CP hCP
  have hhg : H.helpG c who owner seq l t = H.restG c who owner seq l CP := by unfold H.helpG; rw [hl, hCP]
  rw [hhg] at hFIN
  unfold H.restG at hFIN
  rw [hl] at hFIN
  obtain ⟨t1, K⟩ := CP
  dsimp only at hFIN hbd HCO
  have hst1 := tstep_at n t1 (H.ldOp (at_ c 4 owner 0))
  have HOP : Hid (∀ w', Fr [] w w' → Calls Try.prog 119 #[.agg (cfgL c).toArray, .int .i64 owner, .int .u64 seq, .agg (tapeL (.slice oa n oc) t1).toArray] w' fun e w'' => e = .returned (.tuple #[.agg (tapeL (.slice oa n oc) (t1.step n (H.ldOp (at_ c 4 owner 0)))).toArray, .bool (H.isOpen seq (t1.out l))]) ∧ Fr [] w' w'') := fun w' f => ropen_any w' c h owner seq oa n oc t1 hn (by omega) l hl (hO.fr f)
  have HTF := Lib.hid (fun tt => tft oa n oc tt)
  generalize H.isOpen seq (t1.out l) = is at *
  generalize t1.step n (H.ldOp (at_ c 4 owner 0)) = t2 at *
  have HAP : Hid (∀ (w' : World) (a' : Option Addr) (lc' : Nat) (F : Tp), ArgE enE 2 w' (.slice a' K.length lc') K → Fr [] w w' → H.applyG c who owner seq l K (-1) t2 = F → Calls Try.prog 62 #[.agg (cfgL c).toArray, .int .i64 who, .int .i64 owner, .int .u64 seq, .slice a' K.length lc', .agg (tapeL (.slice oa n oc) t2).toArray] w' fun e w'' => e = .returned (.agg (tapeL (.slice oa n oc) F).toArray) ∧ Fr [] w' w'') := fun w' a' lc' F hA f hF => rapply_any w' c h who owner seq a' K.length lc' K rfl (by omega) hA oa n oc t2 hn (by omega) l hl (hO.fr f) F hF
  have hsz6 : (cfgL c).length = 6 := rfl
  have hS := (((Sep.nil (Fr.refl [] w)).new 24 (cfgL c)).new 47 (tapeL (.slice oa n oc) t)).new 47 zT
  simp only [World.size_alloc] at hS
  unfold zT at hS
  have HS := Lib.hid hS; clear hS
  have T0 := Lib.hid (HTF.out t)
  have T1 := Lib.hid (HTF.out t1)
  have T2 := Lib.hid (HTF.out t2)
  have TF := Lib.hid (HTF.out FIN)
  rw [show cfgV c = .agg (cfgL c).toArray from rfl] at *
  have HFIN := Lib.hid hFIN
  clear hFIN hCP hhg hG hO
  generalize tapeL (.slice oa n oc) t = tl0 at *
  generalize tapeL (.slice oa n oc) t1 = tl1 at *
  obtain ⟨tl2, htl2⟩ : ∃ x, x = tapeL (.slice oa n oc) t2 := ⟨_, rfl⟩
  rw [← htl2] at HOP HAP T2
  have HT2 := Lib.hid htl2; clear htl2
  obtain ⟨tlf, htlf⟩ : ∃ x, x = tapeL (.slice oa n oc) FIN := ⟨_, rfl⟩
  rw [← htlf] at TF ⊢
  have HTF2 := Lib.hid htlf; clear htlf
  generalize cfgL c = cl at *
  have hl0 := T0.out.len
  have hl1 := T1.out.len
  have hl2 := T2.out.len
  have ho1 := T1.out.one
  have ho2 := T2.out.one
  go_enter Try.func64, Try.ntmps64
  go_wp2_with (first | (refine wpList_load_any 24 _ rfl rfl _ 0 rfl cl _ (HS.out.blk 2 rfl).range Try.underlying24 rfl (by rw [hsz6]; kernel_rfl) ?_) | (refine wpList_load_any 47 _ rfl rfl _ 0 rfl tl0 _ (HS.out.blk 1 rfl).range Try.underlying47 rfl (by rw [hl0]; kernel_rfl) ?_))
  refine (HCO.out _ HS.out.fr).mono ?_
  rintro e w1 ⟨v', rfl, hN⟩
  obtain ⟨ka, kc, rfl⟩ := hN.form 0 rfl
  have hS := HS.out.append hN
  simp only [List.cons_append, List.nil_append] at hS
  have HS := Lib.hid hS; clear hS hN HCO
  go_wp2_with (first | (refine wpList_store_sep HS.out 2 rfl tl1 47 _ _ rfl rfl rfl rfl (by rw [hl1, hl0]) (by rw [hl1]; kernel_rfl) ho1 (fun wA hA _ => ?_); have HA := Lib.hid hA; clear hA) | (refine wpList_load_any 24 _ rfl rfl _ 0 rfl cl _ (HA.out.blk 3 rfl).range Try.underlying24 rfl (by rw [hsz6]; kernel_rfl) ?_) | (refine wpList_load_any 47 _ rfl rfl _ 0 rfl tl1 _ (HA.out.blk 2 rfl).range Try.underlying47 rfl (by rw [hl1]; kernel_rfl) ?_))
  refine (HOP.out _ HA.out.fr).mono ?_
  rintro e w2 ⟨rfl, hf⟩
  have HS := Lib.hid (HA.out.fr0 hf); clear hf HA HOP
  by_cases hret : t2.need = true ∨ is = false
  · have hfin : t2 = FIN := by have := HFIN.out; rw [if_pos hret] at this; exact this
    have hfl : tl2 = tlf := by rw [HT2.out, HTF2.out, hfin]
    have HFL := Lib.hid hfl
    clear hfin hfl
    cases hnv : t2.need
    · have his : is = false := by rw [hnv] at hret; simpa using hret
      subst his
      have HNV := Lib.hid hnv
      clear hnv hret
      go_wp2_with (first | (refine wpList_store_sep HS.out 2 rfl tl2 47 _ _ rfl rfl rfl rfl (by rw [hl2, hl1]) (by rw [hl2]; kernel_rfl) ho2 (fun wA hA _ => ?_); have n8 := ((hA.blk 2 rfl).cell 8).trans T2.out.need; have n8l := (hA.blk 2 rfl).lt; rw [HNV.out] at n8; have HA := Lib.hid hA; clear hA) | (refine wpList_load_any 47 _ rfl rfl _ 0 rfl tl2 _ (HA.out.blk 2 rfl).range Try.underlying47 rfl (by rw [hl2]; kernel_rfl) ?_) | (refine wpList_store_sep HA.out 1 rfl tl2 47 _ _ rfl rfl rfl rfl (by rw [hl2]; rfl) (by rw [hl2]; kernel_rfl) ho2 (fun wB hB _ => ?_); have HX := Lib.hid hB; clear hB))
      exact bodyPost_ret (v := .agg (tl2).toArray) (res_cell Try.results64 rfl (HX.out.blk 1 rfl).range Try.underlying47 rfl (by rw [(T2).out.len]; kernel_rfl)) rfl ⟨by rw [HFL.out], HX.out.fr⟩
    · have HNV := Lib.hid hnv
      clear hnv hret
      cases is
      · go_wp2_with (first | (refine wpList_store_sep HS.out 2 rfl tl2 47 _ _ rfl rfl rfl rfl (by rw [hl2, hl1]) (by rw [hl2]; kernel_rfl) ho2 (fun wA hA _ => ?_); have n8 := ((hA.blk 2 rfl).cell 8).trans T2.out.need; have n8l := (hA.blk 2 rfl).lt; rw [HNV.out] at n8; have HA := Lib.hid hA; clear hA) | (refine wpList_load_any 47 _ rfl rfl _ 0 rfl tl2 _ (HA.out.blk 2 rfl).range Try.underlying47 rfl (by rw [hl2]; kernel_rfl) ?_) | (refine wpList_store_sep HA.out 1 rfl tl2 47 _ _ rfl rfl rfl rfl (by rw [hl2]; rfl) (by rw [hl2]; kernel_rfl) ho2 (fun wB hB _ => ?_); have HX := Lib.hid hB; clear hB))
        exact bodyPost_ret (v := .agg (tl2).toArray) (res_cell Try.results64 rfl (HX.out.blk 1 rfl).range Try.underlying47 rfl (by rw [(T2).out.len]; kernel_rfl)) rfl ⟨by rw [HFL.out], HX.out.fr⟩
      · go_wp2_with (first | (refine wpList_store_sep HS.out 2 rfl tl2 47 _ _ rfl rfl rfl rfl (by rw [hl2, hl1]) (by rw [hl2]; kernel_rfl) ho2 (fun wA hA _ => ?_); have n8 := ((hA.blk 2 rfl).cell 8).trans T2.out.need; have n8l := (hA.blk 2 rfl).lt; rw [HNV.out] at n8; have HA := Lib.hid hA; clear hA) | (refine wpList_load_any 47 _ rfl rfl _ 0 rfl tl2 _ (HA.out.blk 2 rfl).range Try.underlying47 rfl (by rw [hl2]; kernel_rfl) ?_) | (refine wpList_store_sep HA.out 1 rfl tl2 47 _ _ rfl rfl rfl rfl (by rw [hl2]; rfl) (by rw [hl2]; kernel_rfl) ho2 (fun wB hB _ => ?_); have HX := Lib.hid hB; clear hB))
        exact bodyPost_ret (v := .agg (tl2).toArray) (res_cell Try.results64 rfl (HX.out.blk 1 rfl).range Try.underlying47 rfl (by rw [(T2).out.len]; kernel_rfl)) rfl ⟨by rw [HFL.out], HX.out.fr⟩
  · have hfin : H.applyG c who owner seq l K (-1) t2 = FIN := by have := HFIN.out; rw [if_neg hret] at this; exact this
    have hnf : t2.need = false := by cases hx : t2.need; rfl; exact absurd (.inl hx) hret
    have his : is = true := by cases hx : is; exact absurd (.inr hx) hret; rfl
    subst his
    have HNV := Lib.hid hnf
    have HAF := Lib.hid (fun w' a' lc' hA f => HAP.out w' a' lc' FIN hA f hfin)
    rw [← HTF2.out] at HAF
    clear hnf hret hfin HAP
    go_wp2_with (first | (refine wpList_store_sep HS.out 2 rfl tl2 47 _ _ rfl rfl rfl rfl (by rw [hl2, hl1]) (by rw [hl2]; kernel_rfl) ho2 (fun wA hA _ => ?_); have n8 := ((hA.blk 2 rfl).cell 8).trans T2.out.need; have n8l := (hA.blk 2 rfl).lt; rw [HNV.out] at n8; have HA := Lib.hid hA; clear hA) | (refine wpList_load_any 24 _ rfl rfl _ 0 rfl cl _ (HA.out.blk 3 rfl).range Try.underlying24 rfl (by rw [hsz6]; kernel_rfl) ?_) | (refine wpList_load_any 47 _ rfl rfl _ 0 rfl tl2 _ (HA.out.blk 2 rfl).range Try.underlying47 rfl (by rw [hl2]; kernel_rfl) ?_))
    refine (HAF.out _ ka kc (ArgE.of_row enE_len (HA.out.row 0 rfl)) HA.out.fr).mono ?_
    rintro e w3 ⟨rfl, hf⟩
    have HS := Lib.hid (HA.out.fr0 hf); clear hf HA n8 n8l
    have hlf := TF.out.len
    have hof := TF.out.one
    go_wp2_with (first | (refine wpList_store_sep HS.out 1 rfl tlf 47 _ _ rfl rfl rfl rfl (by rw [hlf]; rfl) (by rw [hlf]; kernel_rfl) hof (fun wA hA _ => ?_); have HX := Lib.hid hA; clear hA))
    exact bodyPost_ret (v := .agg (tlf).toArray) (res_cell Try.results64 rfl (HX.out.blk 1 rfl).range Try.underlying47 rfl (by rw [(TF).out.len]; kernel_rfl)) rfl ⟨by rfl, HX.out.fr⟩
end Go.Proofs.Ytccioehckfdjdaa
