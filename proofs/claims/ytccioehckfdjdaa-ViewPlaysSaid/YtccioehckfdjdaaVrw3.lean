/- The walks of the document's Cell, Live (chapter 9). -/
import Derived.Test.YtccioehckfdjdaaVrw2
import Derived.Test.YtccioehckfdjdaaYrat
import Derived.Test.YtccioehckfdjdaaYref
set_option linter.unusedSimpArgs false
set_option linter.unusedVariables false
namespace Go.Tum
theorem res_cct {P : Program} {fn : Func} {tmps : Array Value} {w : World} {a t j u k b b' : Nat} {cs cs' : List Value} {d d' : TypeDesc} {v3 : Value} (hr : fn.results = #[.cell a t, .cell j u, .tmp k]) (ha : tmps.getD a undef = .pointer (some ⟨b, 0, none⟩)) (hj : tmps.getD j undef = .pointer (some ⟨b', 0, none⟩)) (hk : tmps.getD k undef = v3)
    (hc : w.rangeAt b 0 cs) (hu : P.underlying t = some d) (hd : d.isRow = true) (hi : (P.info? t).map (·.size) = some cs.length)
    (hc' : w.rangeAt b' 0 cs') (hu' : P.underlying u = some d') (hd' : d'.isRow = true) (hi' : (P.info? u).map (·.size) = some cs'.length) : (results fn tmps).run P w = .ok (.tuple #[.agg cs.toArray, .agg cs'.toArray, v3]) w := by
  have h1 := run_loadVar_mid (P := P) w b 0 t cs d hc hu hd hi
  have h2 := run_loadVar_mid (P := P) w b' 0 u cs' d' hc' hu' hd' hi'
  rw [Array.getD_eq_getD_getElem?] at ha hj hk
  simp [results, hr, ha, hj, hk, asAddr, Sem.run_bind, h1, h2]
end Go.Tum
namespace Go.Proofs.Ytccioehckfdjdaa
open Go.RowKit Go.Tum Go.Tum.Y Go.Tum.Vw
theorem rload_any (w : World) (c : Cfg) (who seq : Int) (oa : Option Addr) (n oc : Nat) (x : X) (t : Tp) (p : Int) (hn : n ≤ 100000) (ht : t.at_ ≤ 200000) (l : List O3) (hl : l.length = n) (hO : ArgE enO 3 w (.slice oa n oc) l) :
    Calls Try.prog 136 #[.agg (xL c who seq x.held x.stale).toArray, .agg (tapeL (.slice oa n oc) t).toArray, .int .i64 p] w fun e w' => e = .returned (.tuple #[.agg (xL c who seq (rload seq l x t p).x.held (rload seq l x t p).x.stale).toArray, .agg (tapeL (.slice oa n oc) (rload seq l x t p).t).toArray, .int .u64 (rload seq l x t p).val, .int .i64 (rload seq l x t p).s]) ∧ Fr [] w w' := by
  unfold rload
  by_cases h1 : (t.step n (loadOp p)).need = true
  · rw [if_pos (by rw [hl]; exact h1), hl]
    exact rload_need w c who seq oa n oc x t p hn ht l hl hO h1
  · rw [if_neg (by rw [hl]; exact h1), hl]
    by_cases h2 : seq < (t.out l).s
    · rw [if_pos h2]
      exact rload_stale w c who seq oa n oc x t p hn ht l hl hO (by simpa using h1) h2
    · rw [if_neg h2]
      exact rload_good w c who seq oa n oc x t p hn ht l hl hO (by simpa using h1) h2
theorem rload_at (seq : Int) (l : List O3) (x : X) (t : Tp) (p : Int) : (rload seq l x t p).t.at_ ≤ t.at_ + 1 := by
  unfold rload Tp.step
  repeat (first | omega | (dsimp only; omega) | split)
theorem step_at (n : Nat) (t : Tp) (op : P6) : (t.step n op).at_ ≤ t.at_ + 1 := by
  unfold Tp.step
  repeat (first | omega | (dsimp only; omega) | split)
/-- What a reading's walk knows of a view that is laid as cells. -/
structure XF (xl cl : List Value) (seq held : Int) (who : Int) (b : Int) (stale : Bool) : Prop where
  len : xl.length = 10
  one : ∀ u ∈ xl, u.oneCell' = true
  b : xl[1]? = some (.int .i64 b)
  who : xl[6]? = some (.int .i64 who)
  seq : xl[7]? = some (.int .u64 seq)
  held : xl[8]? = some (.int .i64 held)
  stale : xl[9]? = some (.bool stale)
  pre : ∃ xt, xl = cl ++ xt
theorem xf (c : Cfg) (who seq held : Int) (stale : Bool) : XF (xL c who seq held stale) (cfgL c) seq held who c.b stale := ⟨rfl, xL_one c who seq held stale, rfl, rfl, rfl, rfl, rfl, ⟨_, rfl⟩⟩
theorem XF.range {xl cl : List Value} {seq held who b : Int} {stale : Bool} (h : XF xl cl seq held who b stale) {fp : List Nat} {w0 : World} {k : Nat} {T : TypeId} (hB : Blk w0 k T xl) (hn : k ∉ fp) : ∀ w', (∃ x : After fp w0, w' = x.wd) → w'.rangeAt k 0 cl := by
  obtain ⟨xt, rfl⟩ := h.pre
  exact rangeAt_pre hB hn
theorem XF.pre1 {xl cl : List Value} {seq held who b : Int} {stale : Bool} (h : XF xl cl seq held who b stale) {w0 : World} {k : Nat} {T : TypeId} (hB : Blk w0 k T xl) : w0.rangeAt k 0 cl := by
  obtain ⟨xt, rfl⟩ := h.pre
  exact hB.pre
structure TF (tl : List Value) (nd : Bool) : Prop where
  len : tl.length = 9
  one : ∀ u ∈ tl, u.oneCell' = true
  need : tl[8]? = some (.bool nd)
theorem tf (oa : Option Addr) (n oc : Nat) (t : Tp) : TF (tapeL (.slice oa n oc) t) t.need := ⟨rfl, tapeL_one oa n oc t, rfl⟩
set_option maxRecDepth 100000 in
set_option maxHeartbeats 8000000 in
theorem rcell_any (w : World) (c : Cfg) (hok : Ok c) (who seq : Int) (oa : Option Addr) (n oc : Nat) (x : X) (t : Tp) (p : Int) (hn : n ≤ 100000) (ht : t.at_ ≤ 200000) (l : List O3) (hl : l.length = n) (hO : ArgE enO 3 w (.slice oa n oc) l) (r : Rd) (hr : r = rcell c seq l x t p) :
    Calls Try.prog 95 #[.agg (xL c who seq x.held x.stale).toArray, .agg (tapeL (.slice oa n oc) t).toArray, .int .i64 p] w fun e w' => e = .returned (.tuple #[.agg (xL c who seq r.x.held r.x.stale).toArray, .agg (tapeL (.slice oa n oc) r.t).toArray, .int .u64 r.val, .int .i64 r.s]) ∧ Fr [] w w' := by
  subst hr
  have hsz6 : (cfgL c).length = 6 := rfl
  have HL7 : Hid (∀ w, Calls Try.prog 81 #[.agg (cfgL c).toArray, .int .i64 7] w fun e w' => e = .returned (.int .i64 (fTag c)) ∧ Fr [] w w') := fun w => rfrom_7 w c hok
  have HL16 : Hid (∀ w, Calls Try.prog 81 #[.agg (cfgL c).toArray, .int .i64 16] w fun e w' => e = .returned (.int .i64 (fWord c)) ∧ Fr [] w w') := fun w => rfrom_16 w c hok
  have HLD := Lib.hid (fun w' (f : Fr [] w w') => rload_any w' c who seq oa n oc x t p hn ht l hl (hO.fr f))
  unfold rcell
  by_cases h1 : x.stale = true
  · rw [if_pos h1]
    have hS := ((((Sep.nil (Fr.refl [] w)).new 34 (xL c who seq x.held x.stale)).new 47 (tapeL (.slice oa n oc) t)).new 34 zView).new 47 zTape
    simp only [World.size_alloc] at hS
    unfold zView zTape at hS
    have HS := Lib.hid hS; clear hS
    have XL := Lib.hid (xf c who seq x.held x.stale)
    have TL := Lib.hid (tf oa n oc t)
    have XL : Hid (XF (xL c who seq x.held x.stale) (cfgL c) seq x.held who c.b true) := by have := XL.out; rw [h1] at this ⊢; exact this
    clear h1 HLD HL7 HL16 hO
    generalize xL c who seq x.held x.stale = xl at *
    generalize tapeL (.slice oa n oc) t = tl at *
    generalize cfgL c = cl at *
    have hSv := HS.out.blk 3 rfl
    have v1 := (hSv.cell 1).trans XL.out.b
    have v6 := (hSv.cell 6).trans XL.out.who
    have v8 := (hSv.cell 8).trans XL.out.held
    have v9 := (hSv.cell 9).trans XL.out.stale
    have v8f := hSv.froz 8
    have vl := hSv.lt
    go_enter Try.func95, Try.ntmps95
    go_wp2_with fail
    have hmv := (HS.out.blk 3 rfl).drew
    have hmt := (HS.out.blk 2 rfl).drew
    have hlx : (xl).length = zView.length := XL.out.len
    have hlt : (tl).length = zTape.length := TL.out.len
    have hox := XL.out.one
    have hot := TL.out.one
    have HS := Lib.hid HS.out.drew
    refine wp_region_fr [(1, [0, 1]), (2, [2]), (3, [3]), (0, [4, 5])] [w.heap.size + 1 + 1] (by kernel_rfl) (by kernel_rfl) ?_
    simp only [theOps, nthOp, List.map_cons, List.map_nil, Array.getD_eq_getD_getElem?, List.getElem?_toArray, List.getElem?_cons_succ, List.getElem?_cons_zero, Option.getD_some]
    refine wpSegs_soft ?_
    refine wpQuiet_load_mid 34 _ w.heap.size 0 xl _ rfl rfl rfl (rangeAt_after hmv (by simp <;> omega)) Try.underlying34 rfl (by rw [hlx]; kernel_rfl) ?_
    simp only [Act.put, List.setIfInBounds_toArray, List.set_cons_zero, List.set_cons_succ]
    refine wpQuiet_load_mid 47 _ (w.heap.size + 1) 0 tl _ rfl rfl rfl (rangeAt_after hmt (by simp <;> omega)) Try.underlying47 rfl (by rw [hlt]; kernel_rfl) ?_
    simp only [Act.put, List.setIfInBounds_toArray, List.set_cons_zero, List.set_cons_succ]
    refine wpQuiet_nil ?_
    repeat ((first | refine wpSegs_soft ?_ | refine wpSegs_pure ?_ | refine wpSegs_here ?_); (repeat (first | go_big_quiet_step (fail) | quiet_step (fail))); refine wpQuiet_nil ?_)
    refine wpSegs_keep ?_
    refine wpList_store_sep HS.out 1 rfl xl 34 _ _ rfl rfl rfl rfl hlx (by rw [hlx]; kernel_rfl) hox (fun wC hC fC => ?_)
    have HC := Lib.hid hC; have HF := Lib.hid fC
    clear hC fC
    go_wp2_with fail
    refine ⟨⟨⟨_, (by exact HF.out)⟩, rfl⟩, ?_⟩
    refine wpSegs_hard ?_
    refine wpList_store_sep HC.out 0 rfl tl 47 _ _ rfl rfl rfl rfl hlt (by rw [hlt]; kernel_rfl) hot (fun wD hD _ => ?_)
    have HDD := Lib.hid hD; clear hD
    go_wp2_with fail
    repeat ((first | refine wpSegs_soft ?_ | refine wpSegs_pure ?_ | refine wpSegs_here ?_); (repeat (first | go_big_quiet_step (fail) | quiet_step (fail))); refine wpQuiet_nil ?_)
    refine wpSegs_done ?_
    go_wp2_with fail
    exact bodyPost_ret (v := .tuple #[.agg (xl).toArray, .agg (tl).toArray, .int .u64 0, .int .i64 2]) (res_cctt Try.results95 rfl rfl rfl rfl (HDD.out.blk 1 rfl).range Try.underlying34 rfl (by rw [hlx]; kernel_rfl) (HDD.out.blk 0 rfl).range Try.underlying47 rfl (by rw [hlt]; kernel_rfl)) rfl ⟨rfl, HDD.out.fr⟩
  · rw [if_neg h1]
    have XL1 : XF (xL c who seq x.held x.stale) (cfgL c) seq x.held who c.b false := by have := xf c who seq x.held x.stale; rw [show x.stale = false by simpa using h1] at this ⊢; exact this
    have hS := ((((Sep.nil (Fr.refl [] w)).new 34 (xL c who seq x.held x.stale)).new 47 (tapeL (.slice oa n oc) t)).new 34 zView).new 47 zTape
    simp only [World.size_alloc] at hS
    unfold zView zTape at hS
    have HS := Lib.hid hS; clear hS
    have XL := Lib.hid (xf c who seq x.held x.stale)
    have TL := Lib.hid (tf oa n oc t)
    have XL := Lib.hid XL1
    clear XL1 h1
    by_cases h2 : p < fTag c
    · rw [if_pos (.inl h2)]
      have g2 : decide (p < fTag c) = true := by simpa using h2
      clear HLD hO h2
      generalize xL c who seq x.held x.stale = xl at *
      generalize tapeL (.slice oa n oc) t = tl at *
      generalize cfgL c = cl at *
      generalize fTag c = f7 at *
      have hSv := HS.out.blk 3 rfl
      have v1 := (hSv.cell 1).trans XL.out.b
      have v6 := (hSv.cell 6).trans XL.out.who
      have v8 := (hSv.cell 8).trans XL.out.held
      have v9 := (hSv.cell 9).trans XL.out.stale
      have v8f := hSv.froz 8
      have vl := hSv.lt
      go_enter Try.func95, Try.ntmps95
      go_wp2_with
        (refine wpList_load_any 24 _ rfl rfl _ 0 rfl cl _ (XL.out.pre1 (HS.out.blk 3 rfl)) Try.underlying24 rfl (by rw [hsz6]; kernel_rfl) ?_)
      refine (HL7.out _).mono ?_
      rintro e w1 ⟨rfl, hf⟩
      have HS := Lib.hid (HS.out.fr0 hf); clear hf v1 v6 v8 v9 v8f vl hSv
      go_wp2_with fail
      have hmv := (HS.out.blk 3 rfl).drew
      have hmt := (HS.out.blk 2 rfl).drew
      have hlx : (xl).length = zView.length := XL.out.len
      have hlt : (tl).length = zTape.length := TL.out.len
      have hox := XL.out.one
      have hot := TL.out.one
      have HS := Lib.hid HS.out.drew
      refine wp_region_fr [(1, [0, 1]), (2, [2]), (3, [3]), (0, [4, 5])] [w.heap.size + 1 + 1] (by kernel_rfl) (by kernel_rfl) ?_
      simp only [theOps, nthOp, List.map_cons, List.map_nil, Array.getD_eq_getD_getElem?, List.getElem?_toArray, List.getElem?_cons_succ, List.getElem?_cons_zero, Option.getD_some]
      refine wpSegs_soft ?_
      refine wpQuiet_load_mid 34 _ w.heap.size 0 xl _ rfl rfl rfl (rangeAt_after hmv (by simp <;> omega)) Try.underlying34 rfl (by rw [hlx]; kernel_rfl) ?_
      simp only [Act.put, List.setIfInBounds_toArray, List.set_cons_zero, List.set_cons_succ]
      refine wpQuiet_load_mid 47 _ (w.heap.size + 1) 0 tl _ rfl rfl rfl (rangeAt_after hmt (by simp <;> omega)) Try.underlying47 rfl (by rw [hlt]; kernel_rfl) ?_
      simp only [Act.put, List.setIfInBounds_toArray, List.set_cons_zero, List.set_cons_succ]
      refine wpQuiet_nil ?_
      repeat ((first | refine wpSegs_soft ?_ | refine wpSegs_pure ?_ | refine wpSegs_here ?_); (repeat (first | go_big_quiet_step (fail) | quiet_step (fail))); refine wpQuiet_nil ?_)
      refine wpSegs_keep ?_
      refine wpList_store_sep HS.out 1 rfl xl 34 _ _ rfl rfl rfl rfl hlx (by rw [hlx]; kernel_rfl) hox (fun wC hC fC => ?_)
      have HC := Lib.hid hC; have HF := Lib.hid fC
      clear hC fC
      go_wp2_with fail
      refine ⟨⟨⟨_, (by exact HF.out)⟩, rfl⟩, ?_⟩
      refine wpSegs_hard ?_
      refine wpList_store_sep HC.out 0 rfl tl 47 _ _ rfl rfl rfl rfl hlt (by rw [hlt]; kernel_rfl) hot (fun wD hD _ => ?_)
      have HDD := Lib.hid hD; clear hD
      go_wp2_with fail
      repeat ((first | refine wpSegs_soft ?_ | refine wpSegs_pure ?_ | refine wpSegs_here ?_); (repeat (first | go_big_quiet_step (fail) | quiet_step (fail))); refine wpQuiet_nil ?_)
      refine wpSegs_done ?_
      go_wp2_with fail
      exact bodyPost_ret (v := .tuple #[.agg (xl).toArray, .agg (tl).toArray, .int .u64 0, .int .i64 3]) (res_cctt Try.results95 rfl rfl rfl rfl (HDD.out.blk 1 rfl).range Try.underlying34 rfl (by rw [hlx]; kernel_rfl) (HDD.out.blk 0 rfl).range Try.underlying47 rfl (by rw [hlt]; kernel_rfl)) rfl ⟨rfl, HDD.out.fr⟩
    · have g2 : decide (p < fTag c) = false := by simpa using h2
      by_cases h3 : fWord c ≤ p
      · rw [if_pos (.inr h3)]
        have g3 : decide (p ≥ fWord c) = true := by simpa using h3
        clear HLD hO h2 h3
        generalize xL c who seq x.held x.stale = xl at *
        generalize tapeL (.slice oa n oc) t = tl at *
        generalize cfgL c = cl at *
        generalize fTag c = f7 at *
        generalize fWord c = f16 at *
        have hSv := HS.out.blk 3 rfl
        have v1 := (hSv.cell 1).trans XL.out.b
        have v6 := (hSv.cell 6).trans XL.out.who
        have v8 := (hSv.cell 8).trans XL.out.held
        have v9 := (hSv.cell 9).trans XL.out.stale
        have v8f := hSv.froz 8
        have vl := hSv.lt
        go_enter Try.func95, Try.ntmps95
        go_wp2_with
          (refine wpList_load_any 24 _ rfl rfl _ 0 rfl cl _ (XL.out.pre1 (HS.out.blk 3 rfl)) Try.underlying24 rfl (by rw [hsz6]; kernel_rfl) ?_)
        refine (HL7.out _).mono ?_
        rintro e w1 ⟨rfl, hf⟩
        have HS := Lib.hid (HS.out.fr0 hf); clear hf v1 v6 v8 v9 v8f vl hSv
        go_wp2_with
          (refine wpList_load_any 24 _ rfl rfl _ 0 rfl cl _ (XL.out.pre1 (HS.out.blk 3 rfl)) Try.underlying24 rfl (by rw [hsz6]; kernel_rfl) ?_)
        refine (HL16.out _).mono ?_
        rintro e w2 ⟨rfl, hf⟩
        have HS := Lib.hid (HS.out.fr0 hf); clear hf
        go_wp2_with fail
        have hmv := (HS.out.blk 3 rfl).drew
        have hmt := (HS.out.blk 2 rfl).drew
        have hlx : (xl).length = zView.length := XL.out.len
        have hlt : (tl).length = zTape.length := TL.out.len
        have hox := XL.out.one
        have hot := TL.out.one
        have HS := Lib.hid HS.out.drew
        refine wp_region_fr [(1, [0, 1]), (2, [2]), (3, [3]), (0, [4, 5])] [w.heap.size + 1 + 1] (by kernel_rfl) (by kernel_rfl) ?_
        simp only [theOps, nthOp, List.map_cons, List.map_nil, Array.getD_eq_getD_getElem?, List.getElem?_toArray, List.getElem?_cons_succ, List.getElem?_cons_zero, Option.getD_some]
        refine wpSegs_soft ?_
        refine wpQuiet_load_mid 34 _ w.heap.size 0 xl _ rfl rfl rfl (rangeAt_after hmv (by simp <;> omega)) Try.underlying34 rfl (by rw [hlx]; kernel_rfl) ?_
        simp only [Act.put, List.setIfInBounds_toArray, List.set_cons_zero, List.set_cons_succ]
        refine wpQuiet_load_mid 47 _ (w.heap.size + 1) 0 tl _ rfl rfl rfl (rangeAt_after hmt (by simp <;> omega)) Try.underlying47 rfl (by rw [hlt]; kernel_rfl) ?_
        simp only [Act.put, List.setIfInBounds_toArray, List.set_cons_zero, List.set_cons_succ]
        refine wpQuiet_nil ?_
        repeat ((first | refine wpSegs_soft ?_ | refine wpSegs_pure ?_ | refine wpSegs_here ?_); (repeat (first | go_big_quiet_step (fail) | quiet_step (fail))); refine wpQuiet_nil ?_)
        refine wpSegs_keep ?_
        refine wpList_store_sep HS.out 1 rfl xl 34 _ _ rfl rfl rfl rfl hlx (by rw [hlx]; kernel_rfl) hox (fun wC hC fC => ?_)
        have HC := Lib.hid hC; have HF := Lib.hid fC
        clear hC fC
        go_wp2_with fail
        refine ⟨⟨⟨_, (by exact HF.out)⟩, rfl⟩, ?_⟩
        refine wpSegs_hard ?_
        refine wpList_store_sep HC.out 0 rfl tl 47 _ _ rfl rfl rfl rfl hlt (by rw [hlt]; kernel_rfl) hot (fun wD hD _ => ?_)
        have HDD := Lib.hid hD; clear hD
        go_wp2_with fail
        repeat ((first | refine wpSegs_soft ?_ | refine wpSegs_pure ?_ | refine wpSegs_here ?_); (repeat (first | go_big_quiet_step (fail) | quiet_step (fail))); refine wpQuiet_nil ?_)
        refine wpSegs_done ?_
        go_wp2_with fail
        exact bodyPost_ret (v := .tuple #[.agg (xl).toArray, .agg (tl).toArray, .int .u64 0, .int .i64 3]) (res_cctt Try.results95 rfl rfl rfl rfl (HDD.out.blk 1 rfl).range Try.underlying34 rfl (by rw [hlx]; kernel_rfl) (HDD.out.blk 0 rfl).range Try.underlying47 rfl (by rw [hlt]; kernel_rfl)) rfl ⟨rfl, HDD.out.fr⟩
      · rw [if_neg (by omega)]
        have g3 : decide (p ≥ fWord c) = false := by simpa using h3
        have X2 := Lib.hid (xf c who seq (rload seq l x t p).x.held (rload seq l x t p).x.stale)
        have T2 := Lib.hid (tf oa n oc (rload seq l x t p).t)
        generalize rload seq l x t p = r at *
        clear h2 h3 hO
        generalize xL c who seq x.held x.stale = xl at *
        generalize tapeL (.slice oa n oc) t = tl at *
        generalize cfgL c = cl at *
        generalize xL c who seq r.x.held r.x.stale = xl2 at *
        generalize tapeL (.slice oa n oc) r.t = tl2 at *
        generalize fTag c = f7 at *
        generalize fWord c = f16 at *
        have hSv := HS.out.blk 3 rfl
        have v1 := (hSv.cell 1).trans XL.out.b
        have v6 := (hSv.cell 6).trans XL.out.who
        have v8 := (hSv.cell 8).trans XL.out.held
        have v9 := (hSv.cell 9).trans XL.out.stale
        have v8f := hSv.froz 8
        have vl := hSv.lt
        go_enter Try.func95, Try.ntmps95
        go_wp2_with
          (refine wpList_load_any 24 _ rfl rfl _ 0 rfl cl _ (XL.out.pre1 (HS.out.blk 3 rfl)) Try.underlying24 rfl (by rw [hsz6]; kernel_rfl) ?_)
        refine (HL7.out _).mono ?_
        rintro e w1 ⟨rfl, hf⟩
        have HS := Lib.hid (HS.out.fr0 hf); clear hf v1 v6 v8 v9 v8f vl hSv
        go_wp2_with
          (refine wpList_load_any 24 _ rfl rfl _ 0 rfl cl _ (XL.out.pre1 (HS.out.blk 3 rfl)) Try.underlying24 rfl (by rw [hsz6]; kernel_rfl) ?_)
        refine (HL16.out _).mono ?_
        rintro e w2 ⟨rfl, hf⟩
        have HS := Lib.hid (HS.out.fr0 hf); clear hf
        go_wp2_with
          (first | (refine wpList_load_any 34 _ rfl rfl _ 0 rfl xl _ (HS.out.blk 3 rfl).range Try.underlying34 rfl (by rw [XL.out.len]; kernel_rfl) ?_) | (refine wpList_load_any 47 _ rfl rfl _ 0 rfl tl _ (HS.out.blk 2 rfl).range Try.underlying47 rfl (by rw [TL.out.len]; kernel_rfl) ?_))
        refine (HLD.out _ HS.out.fr).mono ?_
        rintro e w3 ⟨rfl, hf⟩
        have HS := Lib.hid (HS.out.fr0 hf); clear hf
        have hlx : (xl2).length = zView.length := (X2.out).len
        have hlt : (tl2).length = zTape.length := (T2.out).len
        have hox := (X2.out).one
        have hot := (T2.out).one
        go_wp2_with (first | (refine wpList_store_sep HS.out 1 rfl xl2 34 _ _ rfl rfl rfl rfl hlx (by rw [hlx]; kernel_rfl) hox (fun wC hC fC => ?_); have HC := Lib.hid hC; clear hC fC) | (refine wpList_store_sep HC.out 0 rfl tl2 47 _ _ rfl rfl rfl rfl hlt (by rw [hlt]; kernel_rfl) hot (fun wD hD _ => ?_); have HDD := Lib.hid hD; clear hD))
        exact bodyPost_ret (v := .tuple #[.agg (xl2).toArray, .agg (tl2).toArray, .int .u64 r.val, .int .i64 r.s]) (res_cctt Try.results95 rfl rfl rfl rfl (HDD.out.blk 1 rfl).range Try.underlying34 rfl (by rw [hlx]; kernel_rfl) (HDD.out.blk 0 rfl).range Try.underlying47 rfl (by rw [hlt]; kernel_rfl)) rfl ⟨rfl, HDD.out.fr⟩
end Go.Proofs.Ytccioehckfdjdaa
